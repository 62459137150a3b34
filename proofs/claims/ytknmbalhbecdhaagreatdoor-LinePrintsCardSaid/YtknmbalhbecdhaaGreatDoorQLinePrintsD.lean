/- Texts of the proof of LinePrints, put together: Print9 Print12 PForm Print13 PPar. -/
import Derived.Test.YtknmbalhbecdhaaGreatDoorProg
import Derived.Below
import Derived.Deep.Draws
import Derived.Deep.AppendLies
import Derived.Maps.AppendAt
import Derived.OwnWalk
import Derived.Laws.BytesArg
import Derived.Laws.MakeOwn
import Derived.Laws.OwnMore
import Derived.Deep.OwnRows
import Derived.Tactics
import Derived.Lib.ConvBytes
import Derived.Laws.Slices
import Derived.WalkKit
import Derived.KernelRfl
import Derived.RowKit3
import Derived.Deep.LoopGhost
import Derived.Deep.QuietTactic
import Derived.BigQuiet
import Derived.WideLaws
import Derived.Deep.DeepCutAuto
import Derived.Deep.CutBlock
import Derived.Deep.RegionHeld3
import Derived.Laws.Rows
import Derived.Lib.AppendStr
import Derived.ArgAppend
import Derived.Laws.IdiomCopy
import Derived.OrdersHeld
import Derived.Laws.BitsLemmas
import Derived.RowKit
import Derived.Shelf.Unicode.ValidAny
import Derived.Shelf.Strings.Builder1
import Derived.Shelf.Small.Utf8
import Derived.Shelf.Small.Strs
import Derived.Shelf.Strings.BuilderF
import Derived.Shelf.Strings.BuilderK
import Derived.Shelf.Strings.Search1
import Derived.Shelf.Strings.Search2
import Derived.Shelf.Strings.Search3
import Derived.Shelf.Strings.Count
import Derived.Shelf.LaysM
import Derived.Shelf.Strings.Shaped
import Derived.Shelf.Strings.Runes
import Derived.Shelf.Strings.IndexAny
import Derived.Shelf.Strings.AsciiSet
import Derived.Shelf.Strings.IndexAnyAll
import Derived.Shelf.Slices.Equal
import Derived.Shelf.Slices.Empties2
import Derived.WalkSpells
import Derived.Laws.Runes
import Derived.Laws.RangeAny
import Derived.Laws.RangeString
import Derived.Lib.IndexAny
import Derived.Lib.SpaceUEq
import Derived.Lib.RuneCount
import Derived.Lib.QuoteLoop
import Derived.Lib.Hide
import Derived.Lib.OthersKept
import Derived.Lib.DecodeN
import Derived.IntWalk
import Derived.Test.YtknmbalhbecdhaaGreatDoorWWords
import Derived.Test.YtknmbalhbecdhaaGreatDoorWLast
import Derived.Test.YtknmbalhbecdhaaGreatDoorWTab
import Derived.Test.YtknmbalhbecdhaaGreatDoorWApart
import Derived.Test.YtknmbalhbecdhaaGreatDoorWArr
import Derived.Test.YtknmbalhbecdhaaGreatDoorWFoot
import Derived.Test.YtknmbalhbecdhaaGreatDoorWKept
import Derived.Test.YtknmbalhbecdhaaGreatDoorWRepsOne
import Derived.Test.YtknmbalhbecdhaaGreatDoorWGuard
import Derived.Laws.NewBlocks
import Derived.Outline
import Derived.Laws.IdiomStrings
import Derived.Deep.RegionWith
import Derived.RegionCalls
import Derived.Lib.IndexLaws
import Derived.Laws.CopyRow
import Derived.Laws.CopyOwn
import Derived.Deep.WholeRow
import Derived.Tactics2
import Derived.Defers
import Derived.Laws.Pointers
import Derived.Laws.LoneSync
import Derived.RegionTactic
import Derived.Lib.ValidU
import Derived.Lib.TrimUEq
import Derived.Lib.ValidLaws
import Derived.Lib.MapLaws
import Derived.Lib.SmallJoins
import Derived.Lib.LazyBuf
import Derived.Test.YtknmbalhbecdhaaGreatDoorQLinePrintsC
section
namespace Go.Proofs.YtknmbalhbecdhaaGreatDoor.Print
open Go.RowKit Go.Proofs.YtknmbalhbecdhaaGreatDoorW.PrintWords Go.Proofs.YtknmbalhbecdhaaGreatDoorW.PrintLast
set_option linter.unusedVariables false
set_option linter.unusedSimpArgs false
def trystref08_letter.f (a0 : Int) (a1 : Bool) : Option (Bool) := if a0 ≥ 65 then (if a0 ≤ 90 then (some true) else (if a0 ≥ 48 then (if a0 ≤ 57 then (some true) else (if a0 = 45 then (some true) else (if a1 = true then (if a0 ≥ 97 then (some (decide (a0 ≤ 122))) else (some false)) else (some false)))) else (if a0 = 45 then (some true) else (if a1 = true then (if a0 ≥ 97 then (some (decide (a0 ≤ 122))) else (some false)) else (some false))))) else (if a0 ≥ 48 then (if a0 ≤ 57 then (some true) else (if a0 = 45 then (some true) else (if a1 = true then (if a0 ≥ 97 then (some (decide (a0 ≤ 122))) else (some false)) else (some false)))) else (if a0 = 45 then (some true) else (if a1 = true then (if a0 ≥ 97 then (some (decide (a0 ≤ 122))) else (some false)) else (some false))))
set_option maxHeartbeats 8000000 in
set_option maxRecDepth 100000 in
theorem trystref08_letter.calls (a0 : Int) (a1 : Bool) (r : Bool) (w : World) (hG : GG w) (h : trystref08_letter.f a0 a1 = some r) :
  Calls Tryz.prog 30 #[.int .u8 a0, .bool a1] w fun e w' => e = .returned (.bool r) ∧ Drawn0 w w' := by
 have H : (if a0 ≥ 65 then (if a0 ≤ 90 then (some true) else (if a0 ≥ 48 then (if a0 ≤ 57 then (some true) else (if a0 = 45 then (some true) else (if a1 = true then (if a0 ≥ 97 then (some (decide (a0 ≤ 122))) else (some false)) else (some false)))) else (if a0 = 45 then (some true) else (if a1 = true then (if a0 ≥ 97 then (some (decide (a0 ≤ 122))) else (some false)) else (some false))))) else (if a0 ≥ 48 then (if a0 ≤ 57 then (some true) else (if a0 = 45 then (some true) else (if a1 = true then (if a0 ≥ 97 then (some (decide (a0 ≤ 122))) else (some false)) else (some false)))) else (if a0 = 45 then (some true) else (if a1 = true then (if a0 ≥ 97 then (some (decide (a0 ≤ 122))) else (some false)) else (some false))))) = some r := h
 clear h
 by_cases c3 : a0 ≥ 65
 ·rw [if_pos c3] at H
  have c3b0 : decide (65 ≤ a0) = true := decide_eq_true c3
  clear c3
  by_cases c4 : a0 ≤ 90
  ·rw [if_pos c4] at H
   have c4b0 : decide (a0 ≤ 90) = true := decide_eq_true c4
   clear c4
   obtain rfl := Option.some.inj H
   go_enter Tryz.func30, Tryz.ntmps30
   go_wp2
   go_ret
   exact ⟨by first | rfl | (simp; done) | (simp [bne_nil_isEmpty, beq_nil_isEmpty]; done) | (simp [*]; done), by repeat (first | exact Drawn0.refl _ | apply Drawn0.step)⟩
  ·rw [if_neg c4] at H
   have c4b0 : decide (a0 ≤ 90) = false := decide_eq_false c4
   clear c4
   by_cases c5 : a0 ≥ 48
   ·rw [if_pos c5] at H
    have c5b0 : decide (48 ≤ a0) = true := decide_eq_true c5
    clear c5
    by_cases c6 : a0 ≤ 57
    ·rw [if_pos c6] at H
     have c6b0 : decide (a0 ≤ 57) = true := decide_eq_true c6
     clear c6
     obtain rfl := Option.some.inj H
     go_enter Tryz.func30, Tryz.ntmps30
     go_wp2
     go_ret
     exact ⟨by first | rfl | (simp; done) | (simp [bne_nil_isEmpty, beq_nil_isEmpty]; done) | (simp [*]; done), by repeat (first | exact Drawn0.refl _ | apply Drawn0.step)⟩
    ·rw [if_neg c6] at H
     have c6b0 : decide (a0 ≤ 57) = false := decide_eq_false c6
     clear c6
     by_cases c7 : a0 = 45
     ·rw [if_pos c7] at H
      have c7b0 : (a0 == 45) = true := beq_iff_eq.mpr c7
      have c7b1 : (a0 != 45) = false := bne_eq_false_iff_eq.mpr c7
      clear c7
      obtain rfl := Option.some.inj H
      go_enter Tryz.func30, Tryz.ntmps30
      go_wp2
      go_ret
      exact ⟨by first | rfl | (simp; done) | (simp [bne_nil_isEmpty, beq_nil_isEmpty]; done) | (simp [*]; done), by repeat (first | exact Drawn0.refl _ | apply Drawn0.step)⟩
     ·rw [if_neg c7] at H
      have c7b0 : (a0 == 45) = false := beq_eq_false_iff_ne.mpr c7
      have c7b1 : (a0 != 45) = true := bne_iff_ne.mpr c7
      by_cases c8 : a1 = true
      ·subst c8
       rw [if_pos rfl] at H
       by_cases c9 : a0 ≥ 97
       ·rw [if_pos c9] at H
        have c9b0 : decide (97 ≤ a0) = true := decide_eq_true c9
        clear c9
        obtain rfl := Option.some.inj H
        go_enter Tryz.func30, Tryz.ntmps30
        go_wp2
        go_ret
        exact ⟨by first | rfl | (simp; done) | (simp [bne_nil_isEmpty, beq_nil_isEmpty]; done) | (simp [*]; done), by repeat (first | exact Drawn0.refl _ | apply Drawn0.step)⟩
       ·rw [if_neg c9] at H
        have c9b0 : decide (97 ≤ a0) = false := decide_eq_false c9
        clear c9
        obtain rfl := Option.some.inj H
        go_enter Tryz.func30, Tryz.ntmps30
        go_wp2
        go_ret
        exact ⟨by first | rfl | (simp; done) | (simp [bne_nil_isEmpty, beq_nil_isEmpty]; done) | (simp [*]; done), by repeat (first | exact Drawn0.refl _ | apply Drawn0.step)⟩
      ·replace c8 := Bool.eq_false_iff.mpr c8
       subst c8
       rw [if_neg (show ¬ (false = true) by decide)] at H
       obtain rfl := Option.some.inj H
       go_enter Tryz.func30, Tryz.ntmps30
       go_wp2
       go_ret
       exact ⟨by first | rfl | (simp; done) | (simp [bne_nil_isEmpty, beq_nil_isEmpty]; done) | (simp [*]; done), by repeat (first | exact Drawn0.refl _ | apply Drawn0.step)⟩
   ·rw [if_neg c5] at H
    have c5b0 : decide (48 ≤ a0) = false := decide_eq_false c5
    clear c5
    by_cases c10 : a0 = 45
    ·rw [if_pos c10] at H
     have c10b0 : (a0 == 45) = true := beq_iff_eq.mpr c10
     have c10b1 : (a0 != 45) = false := bne_eq_false_iff_eq.mpr c10
     clear c10
     obtain rfl := Option.some.inj H
     go_enter Tryz.func30, Tryz.ntmps30
     go_wp2
     go_ret
     exact ⟨by first | rfl | (simp; done) | (simp [bne_nil_isEmpty, beq_nil_isEmpty]; done) | (simp [*]; done), by repeat (first | exact Drawn0.refl _ | apply Drawn0.step)⟩
    ·rw [if_neg c10] at H
     have c10b0 : (a0 == 45) = false := beq_eq_false_iff_ne.mpr c10
     have c10b1 : (a0 != 45) = true := bne_iff_ne.mpr c10
     by_cases c11 : a1 = true
     ·subst c11
      rw [if_pos rfl] at H
      by_cases c12 : a0 ≥ 97
      ·rw [if_pos c12] at H
       have c12b0 : decide (97 ≤ a0) = true := decide_eq_true c12
       clear c12
       obtain rfl := Option.some.inj H
       go_enter Tryz.func30, Tryz.ntmps30
       go_wp2
       go_ret
       exact ⟨by first | rfl | (simp; done) | (simp [bne_nil_isEmpty, beq_nil_isEmpty]; done) | (simp [*]; done), by repeat (first | exact Drawn0.refl _ | apply Drawn0.step)⟩
      ·rw [if_neg c12] at H
       have c12b0 : decide (97 ≤ a0) = false := decide_eq_false c12
       clear c12
       obtain rfl := Option.some.inj H
       go_enter Tryz.func30, Tryz.ntmps30
       go_wp2
       go_ret
       exact ⟨by first | rfl | (simp; done) | (simp [bne_nil_isEmpty, beq_nil_isEmpty]; done) | (simp [*]; done), by repeat (first | exact Drawn0.refl _ | apply Drawn0.step)⟩
     ·replace c11 := Bool.eq_false_iff.mpr c11
      subst c11
      rw [if_neg (show ¬ (false = true) by decide)] at H
      obtain rfl := Option.some.inj H
      go_enter Tryz.func30, Tryz.ntmps30
      go_wp2
      go_ret
      exact ⟨by first | rfl | (simp; done) | (simp [bne_nil_isEmpty, beq_nil_isEmpty]; done) | (simp [*]; done), by repeat (first | exact Drawn0.refl _ | apply Drawn0.step)⟩
 ·rw [if_neg c3] at H
  have c3b0 : decide (65 ≤ a0) = false := decide_eq_false c3
  clear c3
  by_cases c13 : a0 ≥ 48
  ·rw [if_pos c13] at H
   have c13b0 : decide (48 ≤ a0) = true := decide_eq_true c13
   clear c13
   by_cases c14 : a0 ≤ 57
   ·rw [if_pos c14] at H
    have c14b0 : decide (a0 ≤ 57) = true := decide_eq_true c14
    clear c14
    obtain rfl := Option.some.inj H
    go_enter Tryz.func30, Tryz.ntmps30
    go_wp2
    go_ret
    exact ⟨by first | rfl | (simp; done) | (simp [bne_nil_isEmpty, beq_nil_isEmpty]; done) | (simp [*]; done), by repeat (first | exact Drawn0.refl _ | apply Drawn0.step)⟩
   ·rw [if_neg c14] at H
    have c14b0 : decide (a0 ≤ 57) = false := decide_eq_false c14
    clear c14
    by_cases c15 : a0 = 45
    ·rw [if_pos c15] at H
     have c15b0 : (a0 == 45) = true := beq_iff_eq.mpr c15
     have c15b1 : (a0 != 45) = false := bne_eq_false_iff_eq.mpr c15
     clear c15
     obtain rfl := Option.some.inj H
     go_enter Tryz.func30, Tryz.ntmps30
     go_wp2
     go_ret
     exact ⟨by first | rfl | (simp; done) | (simp [bne_nil_isEmpty, beq_nil_isEmpty]; done) | (simp [*]; done), by repeat (first | exact Drawn0.refl _ | apply Drawn0.step)⟩
    ·rw [if_neg c15] at H
     have c15b0 : (a0 == 45) = false := beq_eq_false_iff_ne.mpr c15
     have c15b1 : (a0 != 45) = true := bne_iff_ne.mpr c15
     by_cases c16 : a1 = true
     ·subst c16
      rw [if_pos rfl] at H
      by_cases c17 : a0 ≥ 97
      ·rw [if_pos c17] at H
       have c17b0 : decide (97 ≤ a0) = true := decide_eq_true c17
       clear c17
       obtain rfl := Option.some.inj H
       go_enter Tryz.func30, Tryz.ntmps30
       go_wp2
       go_ret
       exact ⟨by first | rfl | (simp; done) | (simp [bne_nil_isEmpty, beq_nil_isEmpty]; done) | (simp [*]; done), by repeat (first | exact Drawn0.refl _ | apply Drawn0.step)⟩
      ·rw [if_neg c17] at H
       have c17b0 : decide (97 ≤ a0) = false := decide_eq_false c17
       clear c17
       obtain rfl := Option.some.inj H
       go_enter Tryz.func30, Tryz.ntmps30
       go_wp2
       go_ret
       exact ⟨by first | rfl | (simp; done) | (simp [bne_nil_isEmpty, beq_nil_isEmpty]; done) | (simp [*]; done), by repeat (first | exact Drawn0.refl _ | apply Drawn0.step)⟩
     ·replace c16 := Bool.eq_false_iff.mpr c16
      subst c16
      rw [if_neg (show ¬ (false = true) by decide)] at H
      obtain rfl := Option.some.inj H
      go_enter Tryz.func30, Tryz.ntmps30
      go_wp2
      go_ret
      exact ⟨by first | rfl | (simp; done) | (simp [bne_nil_isEmpty, beq_nil_isEmpty]; done) | (simp [*]; done), by repeat (first | exact Drawn0.refl _ | apply Drawn0.step)⟩
  ·rw [if_neg c13] at H
   have c13b0 : decide (48 ≤ a0) = false := decide_eq_false c13
   clear c13
   by_cases c18 : a0 = 45
   ·rw [if_pos c18] at H
    have c18b0 : (a0 == 45) = true := beq_iff_eq.mpr c18
    have c18b1 : (a0 != 45) = false := bne_eq_false_iff_eq.mpr c18
    clear c18
    obtain rfl := Option.some.inj H
    go_enter Tryz.func30, Tryz.ntmps30
    go_wp2
    go_ret
    exact ⟨by first | rfl | (simp; done) | (simp [bne_nil_isEmpty, beq_nil_isEmpty]; done) | (simp [*]; done), by repeat (first | exact Drawn0.refl _ | apply Drawn0.step)⟩
   ·rw [if_neg c18] at H
    have c18b0 : (a0 == 45) = false := beq_eq_false_iff_ne.mpr c18
    have c18b1 : (a0 != 45) = true := bne_iff_ne.mpr c18
    by_cases c19 : a1 = true
    ·subst c19
     rw [if_pos rfl] at H
     by_cases c20 : a0 ≥ 97
     ·rw [if_pos c20] at H
      have c20b0 : decide (97 ≤ a0) = true := decide_eq_true c20
      clear c20
      obtain rfl := Option.some.inj H
      go_enter Tryz.func30, Tryz.ntmps30
      go_wp2
      go_ret
      exact ⟨by first | rfl | (simp; done) | (simp [bne_nil_isEmpty, beq_nil_isEmpty]; done) | (simp [*]; done), by repeat (first | exact Drawn0.refl _ | apply Drawn0.step)⟩
     ·rw [if_neg c20] at H
      have c20b0 : decide (97 ≤ a0) = false := decide_eq_false c20
      clear c20
      obtain rfl := Option.some.inj H
      go_enter Tryz.func30, Tryz.ntmps30
      go_wp2
      go_ret
      exact ⟨by first | rfl | (simp; done) | (simp [bne_nil_isEmpty, beq_nil_isEmpty]; done) | (simp [*]; done), by repeat (first | exact Drawn0.refl _ | apply Drawn0.step)⟩
    ·replace c19 := Bool.eq_false_iff.mpr c19
     subst c19
     rw [if_neg (show ¬ (false = true) by decide)] at H
     obtain rfl := Option.some.inj H
     go_enter Tryz.func30, Tryz.ntmps30
     go_wp2
     go_ret
     exact ⟨by first | rfl | (simp; done) | (simp [bne_nil_isEmpty, beq_nil_isEmpty]; done) | (simp [*]; done), by repeat (first | exact Drawn0.refl _ | apply Drawn0.step)⟩
def trystref08_Name.l0 : Nat → ByteArray → Int → Int → Option (Bool)
 | 0, _, _, _ => none
 | k + 1, x0, x5, x6 => if x6 < x5 then (if 0 ≤ x6 then (if x6 < (x0.size : Int) then ((trystref08_letter.f (bt x0 x6) false).bind fun t248 => (if t248 = true then (trystref08_Name.l0 k x0 x5 (wrap64 (x6 + 1))) else (some false))) else (none)) else (none)) else (if (x0.size : Int) > 0 then (some (decide ((x0.size : Int) ≤ 60))) else (some false))
def trystref08_Name.f (k : Nat) (a0 : ByteArray) : Option (Bool) := trystref08_Name.l0 k a0 (a0.size : Int) 0
set_option maxHeartbeats 8000000 in
set_option maxRecDepth 100000 in
theorem trystref08_Name.calls (k : Nat) (a0 : ByteArray) (r : Bool) (w : World) (hG : GG w) (h : trystref08_Name.f k a0 = some r) :
  Calls Tryz.prog 14 #[.string a0] w fun e w' => e = .returned (.bool r) ∧ Drawn0 w w' := by
 have H : (trystref08_Name.l0 k a0 (a0.size : Int) 0) = some r := h
 clear h
 have H' := Aside0.mk H
 clear H
 go_enter Tryz.func14, Tryz.ntmps14
 go_wp2
 go_loopg [6] k (fun kq v6 w' => ∃ (x6_1 : Int), v6 = .int .i64 x6_1 ∧ Aside0 (trystref08_Name.l0 kq a0 (a0.size : Int) x6_1 = some r) ∧ Aside0 (kq ≤ k) ∧ Drawn0 w w')
 case atStart => exact ⟨(0), (by first | rfl | (simp; done) | (simp [bne_nil_isEmpty, beq_nil_isEmpty]; done) | (simp [*]; done)), H', ⟨Nat.le_refl _⟩, by repeat (first | exact Drawn0.refl _ | apply Drawn0.step)⟩
 case round =>
  clear H'
  try clear c1
  obtain ⟨x6_1, rfl, HA, HK1, ⟨m1, rfl⟩⟩ := hrel
  cases gk with
  | zero => exact absurd HA.out (by simp [trystref08_Name.l0])
  | succ k1 =>
   have H := HA.out
   clear HA
   simp only [trystref08_Name.l0] at H
   by_cases c2 : x6_1 < (a0.size : Int)
   ·rw [if_pos c2] at H
    have c2b0 : decide (x6_1 < (a0.size : Int)) = true := decide_eq_true c2
    clear c2
    by_cases c3 : 0 ≤ x6_1
    ·rw [if_pos c3] at H
     have c3b0 : decide (0 ≤ x6_1) = true := decide_eq_true c3
     clear c3
     by_cases c4 : x6_1 < (a0.size : Int)
     ·rw [if_pos c4] at H
      have c4b0 : decide (x6_1 < (a0.size : Int)) = true := decide_eq_true c4
      clear c4
      replace H := Option.bind_eq_some_iff.mp H
      obtain ⟨t248, A60, H⟩ := H
      replace H : (if t248 = true then (trystref08_Name.l0 k1 a0 (a0.size : Int) (wrap64 (x6_1 + 1))) else (some false)) = some r := H
      have A6 := Aside0.mk A60
      clear A60
      by_cases c7 : t248 = true
      ·subst c7
       rw [if_pos rfl] at H
       have H' := Aside0.mk H
       clear H
       have p5 : 0 ≤ (x6_1 : Int) := of_decide_eq_true (by first | (with_reducible assumption) | assumption)
       have q5 : x6_1 < (a0.size : Int) := of_decide_eq_true (by first | (with_reducible assumption) | assumption)
       have hx5 := bt_at a0 x6_1
       replace p5 := eq_true p5
       replace q5 := eq_true q5
       go_wp2_with (first | ((with_reducible refine gate_callee (f := 30) rfl ?_); refine goesL_ (some 12) rfl rfl Tryz.func30 (by kernel_rfl) rfl #[.int .u8 (bt a0 x6_1), .bool false] rfl (by (try simp only [List.map_toArray, List.map_cons, List.map_nil]); first | done | rfl | (simp only [List.length_drop, List.length_take]; rfl)) ?_; (with_reducible refine (trystref08_letter.calls (bt a0 x6_1) false true _ (by repeat (first | (with_reducible exact hG) | apply GG.drewN | apply GG.drew)) A6.out).mono ?_); rintro e w' ⟨rfl, ⟨nd, rfl⟩⟩; refine ⟨_, rfl, ?_⟩))
       go_roundg k1
       case measure => have := HK1.out; omega
       case rel => exact ⟨(wrap64 (x6_1 + 1)), (by first | rfl | (simp; done) | (simp [bne_nil_isEmpty, beq_nil_isEmpty]; done) | (simp [*]; done)), H', ⟨by have := HK1.out; omega⟩, by repeat (first | exact Drawn0.refl _ | apply Drawn0.step)⟩
      ·replace c7 := Bool.eq_false_iff.mpr c7
       subst c7
       rw [if_neg (show ¬ (false = true) by decide)] at H
       obtain rfl := Option.some.inj H
       have p5 : 0 ≤ (x6_1 : Int) := of_decide_eq_true (by first | (with_reducible assumption) | assumption)
       have q5 : x6_1 < (a0.size : Int) := of_decide_eq_true (by first | (with_reducible assumption) | assumption)
       have hx5 := bt_at a0 x6_1
       replace p5 := eq_true p5
       replace q5 := eq_true q5
       go_wp2_with (first | ((with_reducible refine gate_callee (f := 30) rfl ?_); refine goesL_ (some 12) rfl rfl Tryz.func30 (by kernel_rfl) rfl #[.int .u8 (bt a0 x6_1), .bool false] rfl (by (try simp only [List.map_toArray, List.map_cons, List.map_nil]); first | done | rfl | (simp only [List.length_drop, List.length_take]; rfl)) ?_; (with_reducible refine (trystref08_letter.calls (bt a0 x6_1) false false _ (by repeat (first | (with_reducible exact hG) | apply GG.drewN | apply GG.drew)) A6.out).mono ?_); rintro e w' ⟨rfl, ⟨nd, rfl⟩⟩; refine ⟨_, rfl, ?_⟩))
       go_ret
       exact ⟨by first | rfl | (simp; done) | (simp [bne_nil_isEmpty, beq_nil_isEmpty]; done) | (simp [*]; done), by repeat (first | exact Drawn0.refl _ | apply Drawn0.step)⟩
     ·rw [if_neg c4] at H
      exact absurd H (by simp)
    ·rw [if_neg c3] at H
     exact absurd H (by simp)
   ·rw [if_neg c2] at H
    have c2b0 : decide (x6_1 < (a0.size : Int)) = false := decide_eq_false c2
    clear c2
    by_cases c8 : (a0.size : Int) > 0
    ·rw [if_pos c8] at H
     have c8b0 : decide (0 < (a0.size : Int)) = true := decide_eq_true c8
     have c8b1 : decide (0 < a0.size) = true := decide_eq_true (by omega)
     clear c8
     obtain rfl := Option.some.inj H
     go_wp2
     go_ret
     exact ⟨by first | rfl | (simp; done) | (simp [bne_nil_isEmpty, beq_nil_isEmpty]; done) | (simp [*]; done), by repeat (first | exact Drawn0.refl _ | apply Drawn0.step)⟩
    ·rw [if_neg c8] at H
     have c8b0 : decide (0 < (a0.size : Int)) = false := decide_eq_false c8
     have c8b1 : decide (0 < a0.size) = false := decide_eq_false (by omega)
     clear c8
     obtain rfl := Option.some.inj H
     go_wp2
     go_ret
     exact ⟨by first | rfl | (simp; done) | (simp [bne_nil_isEmpty, beq_nil_isEmpty]; done) | (simp [*]; done), by repeat (first | exact Drawn0.refl _ | apply Drawn0.step)⟩
end Go.Proofs.YtknmbalhbecdhaaGreatDoor.Print
end
section
namespace Go.Proofs.YtknmbalhbecdhaaGreatDoor.Print
open Go.RowKit Go.Proofs.YtknmbalhbecdhaaGreatDoorW.PrintWords Go.Proofs.YtknmbalhbecdhaaGreatDoorW.PrintLast
set_option linter.unusedVariables false
set_option linter.unusedSimpArgs false
mutual
def trystref08_Formed.j0 : Nat → Bool → ByteArray → List (S44) → ByteArray → Option (Bool)
 | 0, _, _, _, _ => none
 | k + 1, x22, x252000, x252001, x252002 => if x22 = true then (some false) else (trystref08_Formed.l0 k (x252001.length : Int) 0 x252000 x252001 x252002)
def trystref08_Formed.l0 : Nat → Int → Int → ByteArray → List (S44) → ByteArray → Option (Bool)
 | 0, _, _, _, _, _ => none
 | k + 1, x25, x26, x252000, x252001, x252002 => if x26 < x25 then (if 0 ≤ x26 then (if x26 < (x252001.length : Int) then ((trystref08_Name.f k ((rd_T44 x252001 x26).f0)).bind fun t256 => (if t256 = true then (if (((rd_T44 x252001 x26).f1).length : Int) < 1 then (trystref08_Formed.j2 k x26 x25 x26 true x252000 x252001 x252002 ((rd_T44 x252001 x26).f0) ((rd_T44 x252001 x26).f1)) else (trystref08_Formed.j2 k x26 x25 x26 (decide ((((rd_T44 x252001 x26).f1).length : Int) > 60)) x252000 x252001 x252002 ((rd_T44 x252001 x26).f0) ((rd_T44 x252001 x26).f1))) else (trystref08_Formed.j2 k x26 x25 x26 true x252000 x252001 x252002 ((rd_T44 x252001 x26).f0) ((rd_T44 x252001 x26).f1)))) else (none)) else (none)) else (some true)
def trystref08_Formed.j2 : Nat → Int → Int → Int → Bool → ByteArray → List (S44) → ByteArray → ByteArray → List ByteArray → Option (Bool)
 | 0, _, _, _, _, _, _, _, _, _ => none
 | k + 1, x3, x25, x26, x49, x252000, x252001, x252002, x256000, x256001 => if x49 = true then (some false) else (trystref08_Formed.l1 k x25 x26 x3 0 x252000 x252001 x252002 x256000 x256001)
def trystref08_Formed.l1 : Nat → Int → Int → Int → Int → ByteArray → List (S44) → ByteArray → ByteArray → List ByteArray → Option (Bool)
 | 0, _, _, _, _, _, _, _, _, _ => none
 | k + 1, x25, x26, x50, x51, x252000, x252001, x252002, x256000, x256001 => if x51 < x50 then (if 0 ≤ x51 then (if x51 < (x252001.length : Int) then (if ((rd_T44 x252001 x51).f0).toList = x256000.toList then (some false) else (trystref08_Formed.l1 k x25 x26 x50 (wrap64 (x51 + 1)) x252000 x252001 x252002 x256000 x256001)) else (none)) else (none)) else (trystref08_Formed.l2 k x25 x26 (x256001.length : Int) 0 x252000 x252001 x252002 x256000 x256001)
def trystref08_Formed.l2 : Nat → Int → Int → Int → Int → ByteArray → List (S44) → ByteArray → ByteArray → List ByteArray → Option (Bool)
 | 0, _, _, _, _, _, _, _, _, _ => none
 | k + 1, x25, x26, x66, x67, x252000, x252001, x252002, x256000, x256001 => if x67 < x66 then (if 0 ≤ x67 then (if x67 < (x256001.length : Int) then ((trystref08_Clean.f k (rdOf ByteArray.empty x256001 x67) true).bind fun t259 => (if t259 = 0 then (trystref08_Formed.l2 k x25 x26 x66 (wrap64 (x67 + 1)) x252000 x252001 x252002 x256000 x256001) else (some false))) else (none)) else (none)) else (trystref08_Formed.l0 k x25 (wrap64 (x26 + 1)) x252000 x252001 x252002)
end
def trystref08_Formed.f (k : Nat) (a0_0 : ByteArray) (l0_1 : List (S44)) (a0_2 : ByteArray) : Option (Bool) := (trystref08_Name.f k a0_0).bind fun t252 => (if t252 = true then (if (l0_1.length : Int) > 60 then (trystref08_Formed.j0 k true a0_0 l0_1 a0_2) else ((trystref08_Clean.f k a0_2 false).bind fun t253 => (trystref08_Formed.j0 k (t253 != 0) a0_0 l0_1 a0_2))) else (trystref08_Formed.j0 k true a0_0 l0_1 a0_2))
set_option maxHeartbeats 8000000 in
set_option maxRecDepth 100000 in
theorem trystref08_Formed.calls (k : Nat) (a0_0 : ByteArray) (A0_1 : Option Addr) (c0_1 : Nat) (l0_1 : List (S44)) (a0_2 : ByteArray) (r : Bool) (w : World) (hG : GG w) (hr0_1 : Kd.C k44 w A0_1 l0_1.length l0_1) (hc0_1 : l0_1.length ≤ c0_1) (h : trystref08_Formed.f k a0_0 l0_1 a0_2 = some r) :
  Calls Tryz.prog 12 #[.agg #[.string a0_0, .slice A0_1 l0_1.length c0_1, .string a0_2]] w fun e w' => e = .returned (.bool r) ∧ Below w.heap.size w w' := by
 have hu24 := Tryz.underlying24
 have hu44 := Tryz.underlying44
 have HR0_1 := Aside0.mk hr0_1
 have HC0_1 := Aside0.mk hc0_1
 clear hr0_1 hc0_1
 have HB := Aside0.mk (Below.refl w.heap.size w)
 have H : ((trystref08_Name.f k a0_0).bind fun t252 => (if t252 = true then (if (l0_1.length : Int) > 60 then (trystref08_Formed.j0 k true a0_0 l0_1 a0_2) else ((trystref08_Clean.f k a0_2 false).bind fun t253 => (trystref08_Formed.j0 k (t253 != 0) a0_0 l0_1 a0_2))) else (trystref08_Formed.j0 k true a0_0 l0_1 a0_2))) = some r := h
 clear h
 have HC2 := Aside0.mk H
 clear H
 go_enter Tryz.func12, Tryz.ntmps12
 go_upto_region 1 with (first | ((with_reducible refine gate_dst (N := 1) rfl ?_); (try (refine gate_guard (by rfl) ?_; dsimp only)); refine box_event ?hg (N := 1) ?hd (cs := #[.string a0_0, .slice A0_1 l0_1.length c0_1, .string a0_2]) (t := 24) ?hr ?_; (case hd => rfl); (case hg => rfl); (case hr => first | (go_simp; done) | (go_simp; rfl)); intro gb251 hg w3 hbox hb; have n0_ := Aside0.mk (below_step (by repeat (first | (with_reducible first | exact HB.out | apply below_alloc | apply pw_below_drewN | apply below_drew1) | exact HB.out)) hb); have n1_ := Aside0.mk (hbox); have n2_ := Aside0.mk ((by rw [hg]; exact (below_size (by repeat (first | (with_reducible first | exact HB.out | apply below_alloc | apply pw_below_drewN | apply below_drew1) | exact HB.out))) : w.heap.size ≤ gb251)); have n3_ := Aside0.mk ((by rw [hg]; exact (below_size (by repeat (first | (with_reducible first | exact HB.out | apply below_alloc | apply pw_below_drewN | apply below_drew1) | exact HB.out))) : w.heap.size ≤ gb251)); clear HB; have HB := n0_; have BK251 := n1_; have GW251 := n2_; have GE251 := n3_; clear n0_ n1_ n2_ n3_; clear hb hbox hg))
 repeat (go_quiet (first | ((with_reducible refine gate_dst (N := 1) rfl ?_); (try (refine gate_guard (by rfl) ?_; dsimp only)); refine box_event ?hg (N := 1) ?hd (cs := #[.string a0_0, .slice A0_1 l0_1.length c0_1, .string a0_2]) (t := 24) ?hr ?_; (case hd => rfl); (case hg => rfl); (case hr => first | (go_simp; done) | (go_simp; rfl)); intro gb251 hg w3 hbox hb; have n0_ := Aside0.mk (below_step (by repeat (first | (with_reducible first | exact HB.out | apply below_alloc | apply pw_below_drewN | apply below_drew1) | exact HB.out)) hb); have n1_ := Aside0.mk (hbox); have n2_ := Aside0.mk ((by rw [hg]; exact (below_size (by repeat (first | (with_reducible first | exact HB.out | apply below_alloc | apply pw_below_drewN | apply below_drew1) | exact HB.out))) : w.heap.size ≤ gb251)); have n3_ := Aside0.mk ((by rw [hg]; exact (below_size (by repeat (first | (with_reducible first | exact HB.out | apply below_alloc | apply pw_below_drewN | apply below_drew1) | exact HB.out))) : w.heap.size ≤ gb251)); clear HB; have HB := n0_; have BK251 := n1_; have GW251 := n2_; have GE251 := n3_; clear n0_ n1_ n2_ n3_; clear hb hbox hg)); go_upto_region 1 with (first | ((with_reducible refine gate_dst (N := 1) rfl ?_); (try (refine gate_guard (by rfl) ?_; dsimp only)); refine box_event ?hg (N := 1) ?hd (cs := #[.string a0_0, .slice A0_1 l0_1.length c0_1, .string a0_2]) (t := 24) ?hr ?_; (case hd => rfl); (case hg => rfl); (case hr => first | (go_simp; done) | (go_simp; rfl)); intro gb251 hg w3 hbox hb; have n0_ := Aside0.mk (below_step (by repeat (first | (with_reducible first | exact HB.out | apply below_alloc | apply pw_below_drewN | apply below_drew1) | exact HB.out)) hb); have n1_ := Aside0.mk (hbox); have n2_ := Aside0.mk ((by rw [hg]; exact (below_size (by repeat (first | (with_reducible first | exact HB.out | apply below_alloc | apply pw_below_drewN | apply below_drew1) | exact HB.out))) : w.heap.size ≤ gb251)); have n3_ := Aside0.mk ((by rw [hg]; exact (below_size (by repeat (first | (with_reducible first | exact HB.out | apply below_alloc | apply pw_below_drewN | apply below_drew1) | exact HB.out))) : w.heap.size ≤ gb251)); clear HB; have HB := n0_; have BK251 := n1_; have GW251 := n2_; have GE251 := n3_; clear n0_ n1_ n2_ n3_; clear hb hbox hg)))
 (try simp only [Act.put, List.setIfInBounds_toArray, List.set_cons_zero, List.set_cons_succ])
 go_cut [22] (fun v22 wc => ∃ (kq : Nat) (x22_1 : Bool), v22 = .bool x22_1 ∧ Aside0 (trystref08_Formed.j0 kq x22_1 a0_0 l0_1 a0_2 = some r) ∧ Aside0 (kq ≤ k) ∧ Aside0 (wc.heap[gb251]? = some (.cells #[.string a0_0, (.slice A0_1 l0_1.length c0_1), .string a0_2] 24 (0, 0))) ∧ Aside0 (Below w.heap.size w wc))
 case first =>
  have H := HC2.out
  clear HC2
  replace H := Option.bind_eq_some_iff.mp H
  obtain ⟨t252, A40, H⟩ := H
  replace H : (if t252 = true then (if (l0_1.length : Int) > 60 then (trystref08_Formed.j0 k true a0_0 l0_1 a0_2) else ((trystref08_Clean.f k a0_2 false).bind fun t253 => (trystref08_Formed.j0 k (t253 != 0) a0_0 l0_1 a0_2))) else (trystref08_Formed.j0 k true a0_0 l0_1 a0_2)) = some r := H
  have A4 := Aside0.mk A40
  clear A40
  by_cases c5 : t252 = true
  ·subst c5
   rw [if_pos rfl] at H
   by_cases c6 : (l0_1.length : Int) > 60
   ·rw [if_pos c6] at H
    have c6b0 : decide (60 < (l0_1.length : Int)) = true := decide_eq_true c6
    have c6b1 : decide (60 < l0_1.length) = true := decide_eq_true (by omega)
    clear c6
    (first | rw [c6b0] | (simp only [i64_w, i32_w]; rw [c6b0]) | skip)
    have H' := Aside0.mk H
    clear H
    have hcz7_0 : w3.cell? ⟨gb251, 0, none⟩ = some (.string a0_0) := (blk_cell BK251.out 0).trans rfl
    have hcz7_1 : w3.cell? ⟨gb251, 1, none⟩ = some (.slice A0_1 l0_1.length c0_1) := (blk_cell BK251.out 1).trans rfl
    have hcz7_2 : w3.cell? ⟨gb251, 2, none⟩ = some (.string a0_2) := (blk_cell BK251.out 2).trans rfl
    have hfz7_0 := blk_frozen BK251.out 0
    have hfz7_1 := blk_frozen BK251.out 1
    have hfz7_2 := blk_frozen BK251.out 2
    go_wp2_with (first | (go_at_call 14; (with_reducible refine (trystref08_Name.calls k a0_0 true _ (by first | (with_reducible exact hG) | exact GG.below hG (by repeat (first | (with_reducible first | exact HB.out | apply below_alloc | apply pw_below_drewN | apply below_drew1 | refine below_set ?_ GE251.out) | exact HB.out))) A4.out).mono ?_); rintro e w' ⟨rfl, ⟨nd, rfl⟩⟩; (try first | exact ⟨rfl, _, World.drewN_drewN _ _ _⟩ | exact ⟨rfl, _, Eq.trans (World.drewN_drewN _ _ _) (congrArg (World.drewN _) (Nat.add_assoc _ _ _))⟩)))
    repeat (go_quiet (first | (go_at_call 14; (with_reducible refine (trystref08_Name.calls k a0_0 true _ (by first | (with_reducible exact hG) | exact GG.below hG (by repeat (first | (with_reducible first | exact HB.out | apply below_alloc | apply pw_below_drewN | apply below_drew1 | refine below_set ?_ GE251.out) | exact HB.out))) A4.out).mono ?_); rintro e w' ⟨rfl, ⟨nd, rfl⟩⟩; (try first | exact ⟨rfl, _, World.drewN_drewN _ _ _⟩ | exact ⟨rfl, _, Eq.trans (World.drewN_drewN _ _ _) (congrArg (World.drewN _) (Nat.add_assoc _ _ _))⟩))); try go_wp2_with (first | (go_at_call 14; (with_reducible refine (trystref08_Name.calls k a0_0 true _ (by first | (with_reducible exact hG) | exact GG.below hG (by repeat (first | (with_reducible first | exact HB.out | apply below_alloc | apply pw_below_drewN | apply below_drew1 | refine below_set ?_ GE251.out) | exact HB.out))) A4.out).mono ?_); rintro e w' ⟨rfl, ⟨nd, rfl⟩⟩; (try first | exact ⟨rfl, _, World.drewN_drewN _ _ _⟩ | exact ⟨rfl, _, Eq.trans (World.drewN_drewN _ _ _) (congrArg (World.drewN _) (Nat.add_assoc _ _ _))⟩))))
    go_meet
    case rel => exact ⟨_, (true), (by first | rfl | (simp; done) | (simp [bne_nil_isEmpty, beq_nil_isEmpty]; done) | (simp [*]; done)), H', ⟨by first | omega | exact Nat.le_refl _⟩, ⟨by (with_reducible repeat (first | refine blk_drewN ?_ _ | refine blk_drew ?_ | refine blk_alloc ?_ _)); exact BK251.out⟩, ⟨by repeat (first | (with_reducible first | exact HB.out | apply below_alloc | apply pw_below_drewN | apply below_drew1 | refine below_set ?_ GE251.out) | exact HB.out)⟩⟩
   ·rw [if_neg c6] at H
    have c6b0 : decide (60 < (l0_1.length : Int)) = false := decide_eq_false c6
    have c6b1 : decide (60 < l0_1.length) = false := decide_eq_false (by omega)
    clear c6
    (first | rw [c6b0] | (simp only [i64_w, i32_w]; rw [c6b0]) | skip)
    replace H := Option.bind_eq_some_iff.mp H
    obtain ⟨t253, A80, H⟩ := H
    replace H : (trystref08_Formed.j0 k (t253 != 0) a0_0 l0_1 a0_2) = some r := H
    have A8 := Aside0.mk A80
    clear A80
    have H' := Aside0.mk H
    clear H
    have hcz9_0 : w3.cell? ⟨gb251, 0, none⟩ = some (.string a0_0) := (blk_cell BK251.out 0).trans rfl
    have hcz9_1 : w3.cell? ⟨gb251, 1, none⟩ = some (.slice A0_1 l0_1.length c0_1) := (blk_cell BK251.out 1).trans rfl
    have hcz9_2 : w3.cell? ⟨gb251, 2, none⟩ = some (.string a0_2) := (blk_cell BK251.out 2).trans rfl
    have hfz9_0 := blk_frozen BK251.out 0
    have hfz9_1 := blk_frozen BK251.out 1
    have hfz9_2 := blk_frozen BK251.out 2
    go_wp2_with (first | (go_at_call 14; (with_reducible refine (trystref08_Name.calls k a0_0 true _ (by first | (with_reducible exact hG) | exact GG.below hG (by repeat (first | (with_reducible first | exact HB.out | apply below_alloc | apply pw_below_drewN | apply below_drew1 | refine below_set ?_ GE251.out) | exact HB.out))) A4.out).mono ?_); rintro e w' ⟨rfl, ⟨nd, rfl⟩⟩; (try first | exact ⟨rfl, _, World.drewN_drewN _ _ _⟩ | exact ⟨rfl, _, Eq.trans (World.drewN_drewN _ _ _) (congrArg (World.drewN _) (Nat.add_assoc _ _ _))⟩)) | (go_at_call 28; (with_reducible refine (trystref08_Clean.calls k a0_2 false t253 _ (by first | (with_reducible exact hG) | exact GG.below hG (by repeat (first | (with_reducible first | exact HB.out | apply below_alloc | apply pw_below_drewN | apply below_drew1 | refine below_set ?_ GE251.out) | exact HB.out))) A8.out).mono ?_); rintro e w' ⟨rfl, ⟨nd, rfl⟩⟩; (try first | exact ⟨rfl, _, World.drewN_drewN _ _ _⟩ | exact ⟨rfl, _, Eq.trans (World.drewN_drewN _ _ _) (congrArg (World.drewN _) (Nat.add_assoc _ _ _))⟩)))
    repeat (go_quiet (first | (go_at_call 14; (with_reducible refine (trystref08_Name.calls k a0_0 true _ (by first | (with_reducible exact hG) | exact GG.below hG (by repeat (first | (with_reducible first | exact HB.out | apply below_alloc | apply pw_below_drewN | apply below_drew1 | refine below_set ?_ GE251.out) | exact HB.out))) A4.out).mono ?_); rintro e w' ⟨rfl, ⟨nd, rfl⟩⟩; (try first | exact ⟨rfl, _, World.drewN_drewN _ _ _⟩ | exact ⟨rfl, _, Eq.trans (World.drewN_drewN _ _ _) (congrArg (World.drewN _) (Nat.add_assoc _ _ _))⟩)) | (go_at_call 28; (with_reducible refine (trystref08_Clean.calls k a0_2 false t253 _ (by first | (with_reducible exact hG) | exact GG.below hG (by repeat (first | (with_reducible first | exact HB.out | apply below_alloc | apply pw_below_drewN | apply below_drew1 | refine below_set ?_ GE251.out) | exact HB.out))) A8.out).mono ?_); rintro e w' ⟨rfl, ⟨nd, rfl⟩⟩; (try first | exact ⟨rfl, _, World.drewN_drewN _ _ _⟩ | exact ⟨rfl, _, Eq.trans (World.drewN_drewN _ _ _) (congrArg (World.drewN _) (Nat.add_assoc _ _ _))⟩))); try go_wp2_with (first | (go_at_call 14; (with_reducible refine (trystref08_Name.calls k a0_0 true _ (by first | (with_reducible exact hG) | exact GG.below hG (by repeat (first | (with_reducible first | exact HB.out | apply below_alloc | apply pw_below_drewN | apply below_drew1 | refine below_set ?_ GE251.out) | exact HB.out))) A4.out).mono ?_); rintro e w' ⟨rfl, ⟨nd, rfl⟩⟩; (try first | exact ⟨rfl, _, World.drewN_drewN _ _ _⟩ | exact ⟨rfl, _, Eq.trans (World.drewN_drewN _ _ _) (congrArg (World.drewN _) (Nat.add_assoc _ _ _))⟩)) | (go_at_call 28; (with_reducible refine (trystref08_Clean.calls k a0_2 false t253 _ (by first | (with_reducible exact hG) | exact GG.below hG (by repeat (first | (with_reducible first | exact HB.out | apply below_alloc | apply pw_below_drewN | apply below_drew1 | refine below_set ?_ GE251.out) | exact HB.out))) A8.out).mono ?_); rintro e w' ⟨rfl, ⟨nd, rfl⟩⟩; (try first | exact ⟨rfl, _, World.drewN_drewN _ _ _⟩ | exact ⟨rfl, _, Eq.trans (World.drewN_drewN _ _ _) (congrArg (World.drewN _) (Nat.add_assoc _ _ _))⟩))))
    go_meet
    case rel => exact ⟨_, ((t253 != 0)), (by first | rfl | (simp; done) | (simp [bne_nil_isEmpty, beq_nil_isEmpty]; done) | (simp [*]; done)), H', ⟨by first | omega | exact Nat.le_refl _⟩, ⟨by (with_reducible repeat (first | refine blk_drewN ?_ _ | refine blk_drew ?_ | refine blk_alloc ?_ _)); exact BK251.out⟩, ⟨by repeat (first | (with_reducible first | exact HB.out | apply below_alloc | apply pw_below_drewN | apply below_drew1 | refine below_set ?_ GE251.out) | exact HB.out)⟩⟩
  ·replace c5 := Bool.eq_false_iff.mpr c5
   subst c5
   rw [if_neg (show ¬ (false = true) by decide)] at H
   have H' := Aside0.mk H
   clear H
   have hcz10_0 : w3.cell? ⟨gb251, 0, none⟩ = some (.string a0_0) := (blk_cell BK251.out 0).trans rfl
   have hcz10_1 : w3.cell? ⟨gb251, 1, none⟩ = some (.slice A0_1 l0_1.length c0_1) := (blk_cell BK251.out 1).trans rfl
   have hcz10_2 : w3.cell? ⟨gb251, 2, none⟩ = some (.string a0_2) := (blk_cell BK251.out 2).trans rfl
   have hfz10_0 := blk_frozen BK251.out 0
   have hfz10_1 := blk_frozen BK251.out 1
   have hfz10_2 := blk_frozen BK251.out 2
   go_wp2_with (first | (go_at_call 14; (with_reducible refine (trystref08_Name.calls k a0_0 false _ (by first | (with_reducible exact hG) | exact GG.below hG (by repeat (first | (with_reducible first | exact HB.out | apply below_alloc | apply pw_below_drewN | apply below_drew1 | refine below_set ?_ GE251.out) | exact HB.out))) A4.out).mono ?_); rintro e w' ⟨rfl, ⟨nd, rfl⟩⟩; (try first | exact ⟨rfl, _, World.drewN_drewN _ _ _⟩ | exact ⟨rfl, _, Eq.trans (World.drewN_drewN _ _ _) (congrArg (World.drewN _) (Nat.add_assoc _ _ _))⟩)))
   repeat (go_quiet (first | (go_at_call 14; (with_reducible refine (trystref08_Name.calls k a0_0 false _ (by first | (with_reducible exact hG) | exact GG.below hG (by repeat (first | (with_reducible first | exact HB.out | apply below_alloc | apply pw_below_drewN | apply below_drew1 | refine below_set ?_ GE251.out) | exact HB.out))) A4.out).mono ?_); rintro e w' ⟨rfl, ⟨nd, rfl⟩⟩; (try first | exact ⟨rfl, _, World.drewN_drewN _ _ _⟩ | exact ⟨rfl, _, Eq.trans (World.drewN_drewN _ _ _) (congrArg (World.drewN _) (Nat.add_assoc _ _ _))⟩))); try go_wp2_with (first | (go_at_call 14; (with_reducible refine (trystref08_Name.calls k a0_0 false _ (by first | (with_reducible exact hG) | exact GG.below hG (by repeat (first | (with_reducible first | exact HB.out | apply below_alloc | apply pw_below_drewN | apply below_drew1 | refine below_set ?_ GE251.out) | exact HB.out))) A4.out).mono ?_); rintro e w' ⟨rfl, ⟨nd, rfl⟩⟩; (try first | exact ⟨rfl, _, World.drewN_drewN _ _ _⟩ | exact ⟨rfl, _, Eq.trans (World.drewN_drewN _ _ _) (congrArg (World.drewN _) (Nat.add_assoc _ _ _))⟩))))
   go_meet
   case rel => exact ⟨_, (true), (by first | rfl | (simp; done) | (simp [bne_nil_isEmpty, beq_nil_isEmpty]; done) | (simp [*]; done)), H', ⟨by first | omega | exact Nat.le_refl _⟩, ⟨by (with_reducible repeat (first | refine blk_drewN ?_ _ | refine blk_drew ?_ | refine blk_alloc ?_ _)); exact BK251.out⟩, ⟨by repeat (first | (with_reducible first | exact HB.out | apply below_alloc | apply pw_below_drewN | apply below_drew1 | refine below_set ?_ GE251.out) | exact HB.out)⟩⟩
 case rest =>
  clear HC2
  try clear c1
  try clear p2
  try clear c5
  try clear c6
  try clear c6b0
  try clear c6b1
  try clear hcz10_0
  try clear hcz10_1
  try clear hcz10_2
  try clear hcz7_0
  try clear hcz7_1
  try clear hcz7_2
  try clear hcz9_0
  try clear hcz9_1
  try clear hcz9_2
  try clear hfz10_0
  try clear hfz10_1
  try clear hfz10_2
  try clear hfz7_0
  try clear hfz7_1
  try clear hfz7_2
  try clear hfz9_0
  try clear hfz9_1
  try clear hfz9_2
  obtain ⟨kq, x22_1, rfl, HA, HJ1, BK251, HB⟩ := hcut
  cases kq with
  | zero => exact absurd HA.out (by simp [trystref08_Formed.j0])
  | succ kj1 =>
   have H := HA.out
   clear HA
   simp only [trystref08_Formed.j0] at H
   by_cases c11 : x22_1 = true
   ·subst c11
    rw [if_pos rfl] at H
    obtain rfl := Option.some.inj H
    go_wp2
    repeat (go_quiet (fail); try go_wp2)
    go_ret
    exact ⟨by first | rfl | (simp [errW_none, errW_some] <;> rfl) | (simp [*, errW_none, errW_some] <;> rfl), by repeat (first | (with_reducible first | exact HB.out | apply below_alloc | apply pw_below_drewN | apply below_drew1 | refine below_set ?_ GE251.out) | exact HB.out)⟩
   ·replace c11 := Bool.eq_false_iff.mpr c11
    subst c11
    rw [if_neg (show ¬ (false = true) by decide)] at H
    have H' := Aside0.mk H
    clear H
    have hcz12_0 : wc.cell? ⟨gb251, 0, none⟩ = some (.string a0_0) := (blk_cell BK251.out 0).trans rfl
    have hcz12_1 : wc.cell? ⟨gb251, 1, none⟩ = some (.slice A0_1 l0_1.length c0_1) := (blk_cell BK251.out 1).trans rfl
    have hcz12_2 : wc.cell? ⟨gb251, 2, none⟩ = some (.string a0_2) := (blk_cell BK251.out 2).trans rfl
    have hfz12_0 := blk_frozen BK251.out 0
    have hfz12_1 := blk_frozen BK251.out 1
    have hfz12_2 := blk_frozen BK251.out 2
    go_wp2
    repeat (go_quiet (fail); try go_wp2)
    go_loopg [26] kj1 (fun kq v26 w' => ∃ (x26_2 : Int), v26 = .int .i64 x26_2 ∧ Aside0 (trystref08_Formed.l0 kq (l0_1.length : Int) x26_2 a0_0 l0_1 a0_2 = some r) ∧ Aside0 (kq ≤ kj1) ∧ Aside0 (w'.heap[gb251]? = some (.cells #[.string a0_0, (.slice A0_1 l0_1.length c0_1), .string a0_2] 24 (0, 0))) ∧ Aside0 (Below w.heap.size w w'))
    case atStart => exact ⟨(0), (by first | rfl | (simp; done) | (simp [bne_nil_isEmpty, beq_nil_isEmpty]; done) | (simp [*]; done)), H', ⟨Nat.le_refl _⟩, ⟨by (with_reducible repeat (first | refine blk_drewN ?_ _ | refine blk_drew ?_ | refine blk_alloc ?_ _)); exact BK251.out⟩, ⟨by repeat (first | (with_reducible first | exact HB.out | apply below_alloc | apply pw_below_drewN | apply below_drew1 | refine below_set ?_ GE251.out) | exact HB.out)⟩⟩
    case round =>
     clear H'
     try clear c1
     try clear p2
     try clear c5
     try clear c6
     try clear c6b0
     try clear c6b1
     try clear c11
     try clear c12
     try clear hcz10_0
     try clear hcz10_1
     try clear hcz10_2
     try clear hcz12_0
     try clear hcz12_1
     try clear hcz12_2
     try clear hcz7_0
     try clear hcz7_1
     try clear hcz7_2
     try clear hcz9_0
     try clear hcz9_1
     try clear hcz9_2
     try clear hfz10_0
     try clear hfz10_1
     try clear hfz10_2
     try clear hfz12_0
     try clear hfz12_1
     try clear hfz12_2
     try clear hfz7_0
     try clear hfz7_1
     try clear hfz7_2
     try clear hfz9_0
     try clear hfz9_1
     try clear hfz9_2
     try clear p2
     obtain ⟨x26_2, rfl, HA, HK2, BK251, HB⟩ := hrel
     cases gk with
     | zero => exact absurd HA.out (by simp [trystref08_Formed.l0])
     | succ k2 =>
      have H := HA.out
      clear HA
      simp only [trystref08_Formed.l0] at H
      by_cases c13 : x26_2 < (l0_1.length : Int)
      ·rw [if_pos c13] at H
       have c13b0 : decide (x26_2 < (l0_1.length : Int)) = true := decide_eq_true c13
       clear c13
       by_cases c14 : 0 ≤ x26_2
       ·rw [if_pos c14] at H
        have c14b0 : decide (0 ≤ x26_2) = true := decide_eq_true c14
        clear c14
        by_cases c15 : x26_2 < (l0_1.length : Int)
        ·rw [if_pos c15] at H
         have c15b0 : decide (x26_2 < (l0_1.length : Int)) = true := decide_eq_true c15
         clear c15
         have HC16 := Aside0.mk H
         clear H
         have hcz17_0 : wr.cell? ⟨gb251, 0, none⟩ = some (.string a0_0) := (blk_cell BK251.out 0).trans rfl
         have hcz17_1 : wr.cell? ⟨gb251, 1, none⟩ = some (.slice A0_1 l0_1.length c0_1) := (blk_cell BK251.out 1).trans rfl
         have hcz17_2 : wr.cell? ⟨gb251, 2, none⟩ = some (.string a0_2) := (blk_cell BK251.out 2).trans rfl
         have hfz17_0 := blk_frozen BK251.out 0
         have hfz17_1 := blk_frozen BK251.out 1
         have hfz17_2 := blk_frozen BK251.out 2
         have p254 : 0 ≤ (x26_2 : Int) := of_decide_eq_true (by first | (with_reducible assumption) | assumption)
         have q254 : x26_2 < (l0_1.length : Int) := of_decide_eq_true (by first | (with_reducible assumption) | assumption)
         obtain ⟨ad254, A254_1, c254_1, e254, hx254_0, hx254_1, hl254_1, hi254_1⟩ := at_T44 HR0_1.out x26_2 p254 q254
         cases e254
         replace hx254_0 := (HB.out.cell (World.block_lt_of_cell? w _ hx254_0)).trans hx254_0
         replace hx254_1 := (HB.out.cell (World.block_lt_of_cell? w _ hx254_1)).trans hx254_1
         have HR254_1 := Aside0.mk hi254_1
         have HC254_1 := Aside0.mk hl254_1
         clear hi254_1 hl254_1
         replace p254 := eq_true p254
         replace q254 := eq_true q254
         go_upto_region 7 with (first | ((with_reducible refine gate_dst (N := 4) rfl ?_); (try (refine gate_guard (by rfl) ?_; dsimp only)); refine box_event ?hg (N := 4) ?hd (cs := #[.string (⟨#[]⟩ : ByteArray), .slice none 0 0]) (t := 44) ?hr ?_; (case hd => rfl); (case hg => rfl); (case hr => first | (go_simp; done) | (go_simp; rfl)); intro gb255 hg w18 hbox hb; have n0_ := Aside0.mk (blk_below (g := gb251) (o := .cells #[.string a0_0, .slice (some ad254) l0_1.length c0_1, .string a0_2] 24 (0, 0)) (by (with_reducible repeat (first | refine blk_drewN ?_ _ | refine blk_drew ?_ | refine blk_alloc ?_ _)); exact BK251.out) hb); have n1_ := Aside0.mk (below_step (by repeat (first | (with_reducible first | exact HB.out | apply below_alloc | apply pw_below_drewN | apply below_drew1 | refine below_set ?_ GE251.out) | exact HB.out)) hb); have n2_ := Aside0.mk (hbox); have n3_ := Aside0.mk ((by rw [hg]; exact (below_size (by repeat (first | (with_reducible first | exact HB.out | apply below_alloc | apply pw_below_drewN | apply below_drew1 | refine below_set ?_ GE251.out) | exact HB.out))) : w.heap.size ≤ gb255)); have n4_ := Aside0.mk ((by rw [hg]; exact (below_size (by repeat (first | (with_reducible first | exact HB.out | apply below_alloc | apply pw_below_drewN | apply below_drew1 | refine below_set ?_ GE251.out) | exact HB.out))) : w.heap.size ≤ gb255)); have n5_ := Aside0.mk ((by rw [hg]; exact Nat.ne_of_lt (blk_lt (g := gb251) (o := .cells #[.string a0_0, .slice (some ad254) l0_1.length c0_1, .string a0_2] 24 (0, 0)) (by (with_reducible repeat (first | refine blk_drewN ?_ _ | refine blk_drew ?_ | refine blk_alloc ?_ _)); exact BK251.out)) : gb251 ≠ gb255)); have n6_ := Aside0.mk ((by rw [hg]; exact Nat.ne_of_gt (blk_lt (g := gb251) (o := .cells #[.string a0_0, .slice (some ad254) l0_1.length c0_1, .string a0_2] 24 (0, 0)) (by (with_reducible repeat (first | refine blk_drewN ?_ _ | refine blk_drew ?_ | refine blk_alloc ?_ _)); exact BK251.out)) : gb255 ≠ gb251)); clear BK251; clear HB; have BK251 := n0_; have HB := n1_; have BK255 := n2_; have GW255 := n3_; have GE255 := n4_; have NB251_255 := n5_; have NB255_251 := n6_; clear n0_ n1_ n2_ n3_ n4_ n5_ n6_; clear hb hbox hg; have hnb19 := NB255_251.out; have hnc19 := NB251_255.out; have hcz20_0 : w18.cell? ⟨gb255, 0, none⟩ = some (.string (⟨#[]⟩ : ByteArray)) := (blk_cell BK255.out 0).trans rfl; have hcz20_1 : w18.cell? ⟨gb255, 1, none⟩ = some (.slice none 0 0) := (blk_cell BK255.out 1).trans rfl; have hfz20_0 := blk_frozen BK255.out 0; have hfz20_1 := blk_frozen BK255.out 1))
         repeat (go_quiet (first | ((with_reducible refine gate_dst (N := 4) rfl ?_); (try (refine gate_guard (by rfl) ?_; dsimp only)); refine box_event ?hg (N := 4) ?hd (cs := #[.string (⟨#[]⟩ : ByteArray), .slice none 0 0]) (t := 44) ?hr ?_; (case hd => rfl); (case hg => rfl); (case hr => first | (go_simp; done) | (go_simp; rfl)); intro gb255 hg w18 hbox hb; have n0_ := Aside0.mk (blk_below (g := gb251) (o := .cells #[.string a0_0, .slice (some ad254) l0_1.length c0_1, .string a0_2] 24 (0, 0)) (by (with_reducible repeat (first | refine blk_drewN ?_ _ | refine blk_drew ?_ | refine blk_alloc ?_ _)); exact BK251.out) hb); have n1_ := Aside0.mk (below_step (by repeat (first | (with_reducible first | exact HB.out | apply below_alloc | apply pw_below_drewN | apply below_drew1 | refine below_set ?_ GE251.out) | exact HB.out)) hb); have n2_ := Aside0.mk (hbox); have n3_ := Aside0.mk ((by rw [hg]; exact (below_size (by repeat (first | (with_reducible first | exact HB.out | apply below_alloc | apply pw_below_drewN | apply below_drew1 | refine below_set ?_ GE251.out) | exact HB.out))) : w.heap.size ≤ gb255)); have n4_ := Aside0.mk ((by rw [hg]; exact (below_size (by repeat (first | (with_reducible first | exact HB.out | apply below_alloc | apply pw_below_drewN | apply below_drew1 | refine below_set ?_ GE251.out) | exact HB.out))) : w.heap.size ≤ gb255)); have n5_ := Aside0.mk ((by rw [hg]; exact Nat.ne_of_lt (blk_lt (g := gb251) (o := .cells #[.string a0_0, .slice (some ad254) l0_1.length c0_1, .string a0_2] 24 (0, 0)) (by (with_reducible repeat (first | refine blk_drewN ?_ _ | refine blk_drew ?_ | refine blk_alloc ?_ _)); exact BK251.out)) : gb251 ≠ gb255)); have n6_ := Aside0.mk ((by rw [hg]; exact Nat.ne_of_gt (blk_lt (g := gb251) (o := .cells #[.string a0_0, .slice (some ad254) l0_1.length c0_1, .string a0_2] 24 (0, 0)) (by (with_reducible repeat (first | refine blk_drewN ?_ _ | refine blk_drew ?_ | refine blk_alloc ?_ _)); exact BK251.out)) : gb255 ≠ gb251)); clear BK251; clear HB; have BK251 := n0_; have HB := n1_; have BK255 := n2_; have GW255 := n3_; have GE255 := n4_; have NB251_255 := n5_; have NB255_251 := n6_; clear n0_ n1_ n2_ n3_ n4_ n5_ n6_; clear hb hbox hg; have hnb19 := NB255_251.out; have hnc19 := NB251_255.out; have hcz20_0 : w18.cell? ⟨gb255, 0, none⟩ = some (.string (⟨#[]⟩ : ByteArray)) := (blk_cell BK255.out 0).trans rfl; have hcz20_1 : w18.cell? ⟨gb255, 1, none⟩ = some (.slice none 0 0) := (blk_cell BK255.out 1).trans rfl; have hfz20_0 := blk_frozen BK255.out 0; have hfz20_1 := blk_frozen BK255.out 1)); go_upto_region 7 with (first | ((with_reducible refine gate_dst (N := 4) rfl ?_); (try (refine gate_guard (by rfl) ?_; dsimp only)); refine box_event ?hg (N := 4) ?hd (cs := #[.string (⟨#[]⟩ : ByteArray), .slice none 0 0]) (t := 44) ?hr ?_; (case hd => rfl); (case hg => rfl); (case hr => first | (go_simp; done) | (go_simp; rfl)); intro gb255 hg w18 hbox hb; have n0_ := Aside0.mk (blk_below (g := gb251) (o := .cells #[.string a0_0, .slice (some ad254) l0_1.length c0_1, .string a0_2] 24 (0, 0)) (by (with_reducible repeat (first | refine blk_drewN ?_ _ | refine blk_drew ?_ | refine blk_alloc ?_ _)); exact BK251.out) hb); have n1_ := Aside0.mk (below_step (by repeat (first | (with_reducible first | exact HB.out | apply below_alloc | apply pw_below_drewN | apply below_drew1 | refine below_set ?_ GE251.out) | exact HB.out)) hb); have n2_ := Aside0.mk (hbox); have n3_ := Aside0.mk ((by rw [hg]; exact (below_size (by repeat (first | (with_reducible first | exact HB.out | apply below_alloc | apply pw_below_drewN | apply below_drew1 | refine below_set ?_ GE251.out) | exact HB.out))) : w.heap.size ≤ gb255)); have n4_ := Aside0.mk ((by rw [hg]; exact (below_size (by repeat (first | (with_reducible first | exact HB.out | apply below_alloc | apply pw_below_drewN | apply below_drew1 | refine below_set ?_ GE251.out) | exact HB.out))) : w.heap.size ≤ gb255)); have n5_ := Aside0.mk ((by rw [hg]; exact Nat.ne_of_lt (blk_lt (g := gb251) (o := .cells #[.string a0_0, .slice (some ad254) l0_1.length c0_1, .string a0_2] 24 (0, 0)) (by (with_reducible repeat (first | refine blk_drewN ?_ _ | refine blk_drew ?_ | refine blk_alloc ?_ _)); exact BK251.out)) : gb251 ≠ gb255)); have n6_ := Aside0.mk ((by rw [hg]; exact Nat.ne_of_gt (blk_lt (g := gb251) (o := .cells #[.string a0_0, .slice (some ad254) l0_1.length c0_1, .string a0_2] 24 (0, 0)) (by (with_reducible repeat (first | refine blk_drewN ?_ _ | refine blk_drew ?_ | refine blk_alloc ?_ _)); exact BK251.out)) : gb255 ≠ gb251)); clear BK251; clear HB; have BK251 := n0_; have HB := n1_; have BK255 := n2_; have GW255 := n3_; have GE255 := n4_; have NB251_255 := n5_; have NB255_251 := n6_; clear n0_ n1_ n2_ n3_ n4_ n5_ n6_; clear hb hbox hg; have hnb19 := NB255_251.out; have hnc19 := NB251_255.out; have hcz20_0 : w18.cell? ⟨gb255, 0, none⟩ = some (.string (⟨#[]⟩ : ByteArray)) := (blk_cell BK255.out 0).trans rfl; have hcz20_1 : w18.cell? ⟨gb255, 1, none⟩ = some (.slice none 0 0) := (blk_cell BK255.out 1).trans rfl; have hfz20_0 := blk_frozen BK255.out 0; have hfz20_1 := blk_frozen BK255.out 1)))
         (try simp only [Act.put, List.setIfInBounds_toArray, List.set_cons_zero, List.set_cons_succ])
         go_cut [49] (fun v49 wc => ∃ (kq : Nat) (x49_15 : Bool), v49 = .bool x49_15 ∧ Aside0 (trystref08_Formed.j2 kq x26_2 (l0_1.length : Int) x26_2 x49_15 a0_0 l0_1 a0_2 ((rd_T44 l0_1 x26_2).f0) ((rd_T44 l0_1 x26_2).f1) = some r) ∧ Aside0 (kq ≤ k2) ∧ Aside0 (wc.heap[gb251]? = some (.cells #[.string a0_0, (.slice (some ad254) l0_1.length c0_1), .string a0_2] 24 (0, 0))) ∧ Aside0 (wc.heap[gb255]? = some (.cells #[.string ((rd_T44 l0_1 x26_2).f0), (.slice A254_1 ((rd_T44 l0_1 x26_2).f1).length c254_1)] 44 (0, 0))) ∧ Aside0 (Below w.heap.size w wc))
         case first =>
          have H := HC16.out
          clear HC16
          replace H := Option.bind_eq_some_iff.mp H
          obtain ⟨t256, A210, H⟩ := H
          replace H : (if t256 = true then (if (((rd_T44 l0_1 x26_2).f1).length : Int) < 1 then (trystref08_Formed.j2 k2 x26_2 (l0_1.length : Int) x26_2 true a0_0 l0_1 a0_2 ((rd_T44 l0_1 x26_2).f0) ((rd_T44 l0_1 x26_2).f1)) else (trystref08_Formed.j2 k2 x26_2 (l0_1.length : Int) x26_2 (decide ((((rd_T44 l0_1 x26_2).f1).length : Int) > 60)) a0_0 l0_1 a0_2 ((rd_T44 l0_1 x26_2).f0) ((rd_T44 l0_1 x26_2).f1))) else (trystref08_Formed.j2 k2 x26_2 (l0_1.length : Int) x26_2 true a0_0 l0_1 a0_2 ((rd_T44 l0_1 x26_2).f0) ((rd_T44 l0_1 x26_2).f1))) = some r := H
          have A21 := Aside0.mk A210
          clear A210
          by_cases c22 : t256 = true
          ·subst c22
           rw [if_pos rfl] at H
           by_cases c23 : (((rd_T44 l0_1 x26_2).f1).length : Int) < 1
           ·rw [if_pos c23] at H
            have c23b0 : decide ((((rd_T44 l0_1 x26_2).f1).length : Int) < 1) = true := decide_eq_true c23
            have c23b1 : decide (((rd_T44 l0_1 x26_2).f1).length < 1) = true := decide_eq_true (by omega)
            clear c23
            (first | rw [c23b0] | (simp only [i64_w, i32_w]; rw [c23b0]) | skip)
            have H' := Aside0.mk H
            clear H
            have hnb24 := NB255_251.out
            have hnc24 := NB251_255.out
            have hcz25_0 : w18.cell? ⟨gb255, 0, none⟩ = some (.string (⟨#[]⟩ : ByteArray)) := (blk_cell BK255.out 0).trans rfl
            have hcz25_1 : w18.cell? ⟨gb255, 1, none⟩ = some (.slice none 0 0) := (blk_cell BK255.out 1).trans rfl
            have hfz25_0 := blk_frozen BK255.out 0
            have hfz25_1 := blk_frozen BK255.out 1
            go_wp2_with (first | (go_at_call 14; (with_reducible refine (trystref08_Name.calls k2 ((rd_T44 l0_1 x26_2).f0) true _ (by first | (with_reducible exact hG) | exact GG.below hG (by repeat (first | (with_reducible first | exact HB.out | apply below_alloc | apply pw_below_drewN | apply below_drew1 | refine below_set ?_ GE251.out | refine below_set ?_ GE255.out) | exact HB.out))) A21.out).mono ?_); rintro e w' ⟨rfl, ⟨nd, rfl⟩⟩; (try first | exact ⟨rfl, _, World.drewN_drewN _ _ _⟩ | exact ⟨rfl, _, Eq.trans (World.drewN_drewN _ _ _) (congrArg (World.drewN _) (Nat.add_assoc _ _ _))⟩)))
            repeat (go_quiet (first | (go_at_call 14; (with_reducible refine (trystref08_Name.calls k2 ((rd_T44 l0_1 x26_2).f0) true _ (by first | (with_reducible exact hG) | exact GG.below hG (by repeat (first | (with_reducible first | exact HB.out | apply below_alloc | apply pw_below_drewN | apply below_drew1 | refine below_set ?_ GE251.out | refine below_set ?_ GE255.out) | exact HB.out))) A21.out).mono ?_); rintro e w' ⟨rfl, ⟨nd, rfl⟩⟩; (try first | exact ⟨rfl, _, World.drewN_drewN _ _ _⟩ | exact ⟨rfl, _, Eq.trans (World.drewN_drewN _ _ _) (congrArg (World.drewN _) (Nat.add_assoc _ _ _))⟩))); try go_wp2_with (first | (go_at_call 14; (with_reducible refine (trystref08_Name.calls k2 ((rd_T44 l0_1 x26_2).f0) true _ (by first | (with_reducible exact hG) | exact GG.below hG (by repeat (first | (with_reducible first | exact HB.out | apply below_alloc | apply pw_below_drewN | apply below_drew1 | refine below_set ?_ GE251.out | refine below_set ?_ GE255.out) | exact HB.out))) A21.out).mono ?_); rintro e w' ⟨rfl, ⟨nd, rfl⟩⟩; (try first | exact ⟨rfl, _, World.drewN_drewN _ _ _⟩ | exact ⟨rfl, _, Eq.trans (World.drewN_drewN _ _ _) (congrArg (World.drewN _) (Nat.add_assoc _ _ _))⟩))))
            go_meet
            case rel => exact ⟨_, (true), (by first | rfl | (simp; done) | (simp [bne_nil_isEmpty, beq_nil_isEmpty]; done) | (simp [*]; done)), H', ⟨by have := HJ1.out; have := HK2.out; first | omega | exact Nat.le_refl _⟩, ⟨by (with_reducible repeat (first | refine blk_drewN ?_ _ | refine blk_drew ?_ | refine blk_alloc ?_ _)); refine blk_far ?_ NB251_255.out _; (with_reducible repeat (first | refine blk_drewN ?_ _ | refine blk_drew ?_ | refine blk_alloc ?_ _)); refine blk_far ?_ NB251_255.out _; (with_reducible repeat (first | refine blk_drewN ?_ _ | refine blk_drew ?_ | refine blk_alloc ?_ _)); exact BK251.out⟩, ⟨by (with_reducible repeat (first | refine blk_drewN ?_ _ | refine blk_drew ?_ | refine blk_alloc ?_ _)); refine blk_put (cs := #[.string ((rd_T44 l0_1 x26_2).f0), .slice none 0 0]) ?_ 1 _ rfl; (with_reducible repeat (first | refine blk_drewN ?_ _ | refine blk_drew ?_ | refine blk_alloc ?_ _)); refine blk_put (cs := #[.string (⟨#[]⟩ : ByteArray), .slice none 0 0]) ?_ 0 _ rfl; (with_reducible repeat (first | refine blk_drewN ?_ _ | refine blk_drew ?_ | refine blk_alloc ?_ _)); exact BK255.out⟩, ⟨by repeat (first | (with_reducible first | exact HB.out | apply below_alloc | apply pw_below_drewN | apply below_drew1 | refine below_set ?_ GE251.out | refine below_set ?_ GE255.out) | exact HB.out)⟩⟩
           ·rw [if_neg c23] at H
            have c23b0 : decide ((((rd_T44 l0_1 x26_2).f1).length : Int) < 1) = false := decide_eq_false c23
            have c23b1 : decide (((rd_T44 l0_1 x26_2).f1).length < 1) = false := decide_eq_false (by omega)
            clear c23
            (first | rw [c23b0] | (simp only [i64_w, i32_w]; rw [c23b0]) | skip)
            have H' := Aside0.mk H
            clear H
            have hnb26 := NB255_251.out
            have hnc26 := NB251_255.out
            have hcz27_0 : w18.cell? ⟨gb255, 0, none⟩ = some (.string (⟨#[]⟩ : ByteArray)) := (blk_cell BK255.out 0).trans rfl
            have hcz27_1 : w18.cell? ⟨gb255, 1, none⟩ = some (.slice none 0 0) := (blk_cell BK255.out 1).trans rfl
            have hfz27_0 := blk_frozen BK255.out 0
            have hfz27_1 := blk_frozen BK255.out 1
            go_wp2_with (first | (go_at_call 14; (with_reducible refine (trystref08_Name.calls k2 ((rd_T44 l0_1 x26_2).f0) true _ (by first | (with_reducible exact hG) | exact GG.below hG (by repeat (first | (with_reducible first | exact HB.out | apply below_alloc | apply pw_below_drewN | apply below_drew1 | refine below_set ?_ GE251.out | refine below_set ?_ GE255.out) | exact HB.out))) A21.out).mono ?_); rintro e w' ⟨rfl, ⟨nd, rfl⟩⟩; (try first | exact ⟨rfl, _, World.drewN_drewN _ _ _⟩ | exact ⟨rfl, _, Eq.trans (World.drewN_drewN _ _ _) (congrArg (World.drewN _) (Nat.add_assoc _ _ _))⟩)))
            repeat (go_quiet (first | (go_at_call 14; (with_reducible refine (trystref08_Name.calls k2 ((rd_T44 l0_1 x26_2).f0) true _ (by first | (with_reducible exact hG) | exact GG.below hG (by repeat (first | (with_reducible first | exact HB.out | apply below_alloc | apply pw_below_drewN | apply below_drew1 | refine below_set ?_ GE251.out | refine below_set ?_ GE255.out) | exact HB.out))) A21.out).mono ?_); rintro e w' ⟨rfl, ⟨nd, rfl⟩⟩; (try first | exact ⟨rfl, _, World.drewN_drewN _ _ _⟩ | exact ⟨rfl, _, Eq.trans (World.drewN_drewN _ _ _) (congrArg (World.drewN _) (Nat.add_assoc _ _ _))⟩))); try go_wp2_with (first | (go_at_call 14; (with_reducible refine (trystref08_Name.calls k2 ((rd_T44 l0_1 x26_2).f0) true _ (by first | (with_reducible exact hG) | exact GG.below hG (by repeat (first | (with_reducible first | exact HB.out | apply below_alloc | apply pw_below_drewN | apply below_drew1 | refine below_set ?_ GE251.out | refine below_set ?_ GE255.out) | exact HB.out))) A21.out).mono ?_); rintro e w' ⟨rfl, ⟨nd, rfl⟩⟩; (try first | exact ⟨rfl, _, World.drewN_drewN _ _ _⟩ | exact ⟨rfl, _, Eq.trans (World.drewN_drewN _ _ _) (congrArg (World.drewN _) (Nat.add_assoc _ _ _))⟩))))
            go_meet
            case rel => exact ⟨_, (decide ((((rd_T44 l0_1 x26_2).f1).length : Int) > 60)), (by first | rfl | (simp; done) | (simp [bne_nil_isEmpty, beq_nil_isEmpty]; done) | (simp [*]; done)), H', ⟨by have := HJ1.out; have := HK2.out; first | omega | exact Nat.le_refl _⟩, ⟨by (with_reducible repeat (first | refine blk_drewN ?_ _ | refine blk_drew ?_ | refine blk_alloc ?_ _)); refine blk_far ?_ NB251_255.out _; (with_reducible repeat (first | refine blk_drewN ?_ _ | refine blk_drew ?_ | refine blk_alloc ?_ _)); refine blk_far ?_ NB251_255.out _; (with_reducible repeat (first | refine blk_drewN ?_ _ | refine blk_drew ?_ | refine blk_alloc ?_ _)); exact BK251.out⟩, ⟨by (with_reducible repeat (first | refine blk_drewN ?_ _ | refine blk_drew ?_ | refine blk_alloc ?_ _)); refine blk_put (cs := #[.string ((rd_T44 l0_1 x26_2).f0), .slice none 0 0]) ?_ 1 _ rfl; (with_reducible repeat (first | refine blk_drewN ?_ _ | refine blk_drew ?_ | refine blk_alloc ?_ _)); refine blk_put (cs := #[.string (⟨#[]⟩ : ByteArray), .slice none 0 0]) ?_ 0 _ rfl; (with_reducible repeat (first | refine blk_drewN ?_ _ | refine blk_drew ?_ | refine blk_alloc ?_ _)); exact BK255.out⟩, ⟨by repeat (first | (with_reducible first | exact HB.out | apply below_alloc | apply pw_below_drewN | apply below_drew1 | refine below_set ?_ GE251.out | refine below_set ?_ GE255.out) | exact HB.out)⟩⟩
          ·replace c22 := Bool.eq_false_iff.mpr c22
           subst c22
           rw [if_neg (show ¬ (false = true) by decide)] at H
           have H' := Aside0.mk H
           clear H
           have hnb28 := NB255_251.out
           have hnc28 := NB251_255.out
           have hcz29_0 : w18.cell? ⟨gb255, 0, none⟩ = some (.string (⟨#[]⟩ : ByteArray)) := (blk_cell BK255.out 0).trans rfl
           have hcz29_1 : w18.cell? ⟨gb255, 1, none⟩ = some (.slice none 0 0) := (blk_cell BK255.out 1).trans rfl
           have hfz29_0 := blk_frozen BK255.out 0
           have hfz29_1 := blk_frozen BK255.out 1
           go_wp2_with (first | (go_at_call 14; (with_reducible refine (trystref08_Name.calls k2 ((rd_T44 l0_1 x26_2).f0) false _ (by first | (with_reducible exact hG) | exact GG.below hG (by repeat (first | (with_reducible first | exact HB.out | apply below_alloc | apply pw_below_drewN | apply below_drew1 | refine below_set ?_ GE251.out | refine below_set ?_ GE255.out) | exact HB.out))) A21.out).mono ?_); rintro e w' ⟨rfl, ⟨nd, rfl⟩⟩; (try first | exact ⟨rfl, _, World.drewN_drewN _ _ _⟩ | exact ⟨rfl, _, Eq.trans (World.drewN_drewN _ _ _) (congrArg (World.drewN _) (Nat.add_assoc _ _ _))⟩)))
           repeat (go_quiet (first | (go_at_call 14; (with_reducible refine (trystref08_Name.calls k2 ((rd_T44 l0_1 x26_2).f0) false _ (by first | (with_reducible exact hG) | exact GG.below hG (by repeat (first | (with_reducible first | exact HB.out | apply below_alloc | apply pw_below_drewN | apply below_drew1 | refine below_set ?_ GE251.out | refine below_set ?_ GE255.out) | exact HB.out))) A21.out).mono ?_); rintro e w' ⟨rfl, ⟨nd, rfl⟩⟩; (try first | exact ⟨rfl, _, World.drewN_drewN _ _ _⟩ | exact ⟨rfl, _, Eq.trans (World.drewN_drewN _ _ _) (congrArg (World.drewN _) (Nat.add_assoc _ _ _))⟩))); try go_wp2_with (first | (go_at_call 14; (with_reducible refine (trystref08_Name.calls k2 ((rd_T44 l0_1 x26_2).f0) false _ (by first | (with_reducible exact hG) | exact GG.below hG (by repeat (first | (with_reducible first | exact HB.out | apply below_alloc | apply pw_below_drewN | apply below_drew1 | refine below_set ?_ GE251.out | refine below_set ?_ GE255.out) | exact HB.out))) A21.out).mono ?_); rintro e w' ⟨rfl, ⟨nd, rfl⟩⟩; (try first | exact ⟨rfl, _, World.drewN_drewN _ _ _⟩ | exact ⟨rfl, _, Eq.trans (World.drewN_drewN _ _ _) (congrArg (World.drewN _) (Nat.add_assoc _ _ _))⟩))))
           go_meet
           case rel => exact ⟨_, (true), (by first | rfl | (simp; done) | (simp [bne_nil_isEmpty, beq_nil_isEmpty]; done) | (simp [*]; done)), H', ⟨by have := HJ1.out; have := HK2.out; first | omega | exact Nat.le_refl _⟩, ⟨by (with_reducible repeat (first | refine blk_drewN ?_ _ | refine blk_drew ?_ | refine blk_alloc ?_ _)); refine blk_far ?_ NB251_255.out _; (with_reducible repeat (first | refine blk_drewN ?_ _ | refine blk_drew ?_ | refine blk_alloc ?_ _)); refine blk_far ?_ NB251_255.out _; (with_reducible repeat (first | refine blk_drewN ?_ _ | refine blk_drew ?_ | refine blk_alloc ?_ _)); exact BK251.out⟩, ⟨by (with_reducible repeat (first | refine blk_drewN ?_ _ | refine blk_drew ?_ | refine blk_alloc ?_ _)); refine blk_put (cs := #[.string ((rd_T44 l0_1 x26_2).f0), .slice none 0 0]) ?_ 1 _ rfl; (with_reducible repeat (first | refine blk_drewN ?_ _ | refine blk_drew ?_ | refine blk_alloc ?_ _)); refine blk_put (cs := #[.string (⟨#[]⟩ : ByteArray), .slice none 0 0]) ?_ 0 _ rfl; (with_reducible repeat (first | refine blk_drewN ?_ _ | refine blk_drew ?_ | refine blk_alloc ?_ _)); exact BK255.out⟩, ⟨by repeat (first | (with_reducible first | exact HB.out | apply below_alloc | apply pw_below_drewN | apply below_drew1 | refine below_set ?_ GE251.out | refine below_set ?_ GE255.out) | exact HB.out)⟩⟩
         case rest =>
          clear HC16
          try clear c1
          try clear c2
          try clear p2
          try clear q2
          try clear hx2
          try clear c5
          try clear c6
          try clear c6b0
          try clear c6b1
          try clear c11
          try clear c12
          try clear c13
          try clear c13b0
          try clear c14
          try clear c14b0
          try clear c15
          try clear c15b0
          try clear c19
          try clear c22
          try clear c23
          try clear c23b0
          try clear c23b1
          try clear c24
          try clear c25
          try clear p25
          try clear q25
          try clear hx25
          try clear c26
          try clear c28
          try clear hcz10_0
          try clear hcz10_1
          try clear hcz10_2
          try clear hcz12_0
          try clear hcz12_1
          try clear hcz12_2
          try clear hcz17_0
          try clear hcz17_1
          try clear hcz17_2
          try clear hcz20_0
          try clear hcz20_1
          try clear hcz25_0
          try clear hcz25_1
          try clear hcz27_0
          try clear hcz27_1
          try clear hcz29_0
          try clear hcz29_1
          try clear hcz7_0
          try clear hcz7_1
          try clear hcz7_2
          try clear hcz9_0
          try clear hcz9_1
          try clear hcz9_2
          try clear hfz10_0
          try clear hfz10_1
          try clear hfz10_2
          try clear hfz12_0
          try clear hfz12_1
          try clear hfz12_2
          try clear hfz17_0
          try clear hfz17_1
          try clear hfz17_2
          try clear hfz20_0
          try clear hfz20_1
          try clear hfz25_0
          try clear hfz25_1
          try clear hfz27_0
          try clear hfz27_1
          try clear hfz29_0
          try clear hfz29_1
          try clear hfz7_0
          try clear hfz7_1
          try clear hfz7_2
          try clear hfz9_0
          try clear hfz9_1
          try clear hfz9_2
          try clear hx254_0
          try clear hx254_1
          try clear p2
          try clear p254
          try clear q254
          obtain ⟨kq, x49_15, rfl, HA, HJ15, BK251, BK255, HB⟩ := hcut
          cases kq with
          | zero => exact absurd HA.out (by simp [trystref08_Formed.j2])
          | succ kj15 =>
           have H := HA.out
           clear HA
           simp only [trystref08_Formed.j2] at H
           by_cases c30 : x49_15 = true
           ·subst c30
            rw [if_pos rfl] at H
            obtain rfl := Option.some.inj H
            go_wp2
            repeat (go_quiet (fail); try go_wp2)
            go_ret
            exact ⟨by first | rfl | (simp [errW_none, errW_some] <;> rfl) | (simp [*, errW_none, errW_some] <;> rfl), by repeat (first | (with_reducible first | exact HB.out | apply below_alloc | apply pw_below_drewN | apply below_drew1 | refine below_set ?_ GE251.out | refine below_set ?_ GE255.out) | exact HB.out)⟩
           ·replace c30 := Bool.eq_false_iff.mpr c30
            subst c30
            rw [if_neg (show ¬ (false = true) by decide)] at H
            have H' := Aside0.mk H
            clear H
            go_wp2
            repeat (go_quiet (fail); try go_wp2)
            go_loopg [51] kj15 (fun kq v51 w' => ∃ (x51_4 : Int), v51 = .int .i64 x51_4 ∧ Aside0 (trystref08_Formed.l1 kq (l0_1.length : Int) x26_2 x26_2 x51_4 a0_0 l0_1 a0_2 ((rd_T44 l0_1 x26_2).f0) ((rd_T44 l0_1 x26_2).f1) = some r) ∧ Aside0 (kq ≤ kj15) ∧ Aside0 (w'.heap[gb251]? = some (.cells #[.string a0_0, (.slice (some ad254) l0_1.length c0_1), .string a0_2] 24 (0, 0))) ∧ Aside0 (w'.heap[gb255]? = some (.cells #[.string ((rd_T44 l0_1 x26_2).f0), (.slice A254_1 ((rd_T44 l0_1 x26_2).f1).length c254_1)] 44 (0, 0))) ∧ Aside0 (Below w.heap.size w w'))
            case atStart => exact ⟨(0), (by first | rfl | (simp; done) | (simp [bne_nil_isEmpty, beq_nil_isEmpty]; done) | (simp [*]; done)), H', ⟨Nat.le_refl _⟩, ⟨by (with_reducible repeat (first | refine blk_drewN ?_ _ | refine blk_drew ?_ | refine blk_alloc ?_ _)); exact BK251.out⟩, ⟨by (with_reducible repeat (first | refine blk_drewN ?_ _ | refine blk_drew ?_ | refine blk_alloc ?_ _)); exact BK255.out⟩, ⟨by repeat (first | (with_reducible first | exact HB.out | apply below_alloc | apply pw_below_drewN | apply below_drew1 | refine below_set ?_ GE251.out | refine below_set ?_ GE255.out) | exact HB.out)⟩⟩
            case round =>
             clear H'
             try clear c1
             try clear c2
             try clear p2
             try clear q2
             try clear hx2
             try clear c3
             try clear c5
             try clear c6
             try clear c6b0
             try clear c6b1
             try clear c11
             try clear c12
             try clear c13
             try clear c13b0
             try clear c14
             try clear c14b0
             try clear c15
             try clear c15b0
             try clear c19
             try clear c22
             try clear c23
             try clear c23b0
             try clear c23b1
             try clear c24
             try clear c25
             try clear p25
             try clear q25
             try clear hx25
             try clear c26
             try clear c28
             try clear c30
             try clear hcz10_0
             try clear hcz10_1
             try clear hcz10_2
             try clear hcz12_0
             try clear hcz12_1
             try clear hcz12_2
             try clear hcz17_0
             try clear hcz17_1
             try clear hcz17_2
             try clear hcz20_0
             try clear hcz20_1
             try clear hcz25_0
             try clear hcz25_1
             try clear hcz27_0
             try clear hcz27_1
             try clear hcz29_0
             try clear hcz29_1
             try clear hcz7_0
             try clear hcz7_1
             try clear hcz7_2
             try clear hcz9_0
             try clear hcz9_1
             try clear hcz9_2
             try clear hfz10_0
             try clear hfz10_1
             try clear hfz10_2
             try clear hfz12_0
             try clear hfz12_1
             try clear hfz12_2
             try clear hfz17_0
             try clear hfz17_1
             try clear hfz17_2
             try clear hfz20_0
             try clear hfz20_1
             try clear hfz25_0
             try clear hfz25_1
             try clear hfz27_0
             try clear hfz27_1
             try clear hfz29_0
             try clear hfz29_1
             try clear hfz7_0
             try clear hfz7_1
             try clear hfz7_2
             try clear hfz9_0
             try clear hfz9_1
             try clear hfz9_2
             try clear hx254_0
             try clear hx254_1
             try clear p2
             try clear p25
             try clear p254
             try clear q2
             try clear q25
             try clear q254
             obtain ⟨x51_4, rfl, HA, HK4, BK251, BK255, HB⟩ := hrel
             cases gk with
             | zero => exact absurd HA.out (by simp [trystref08_Formed.l1])
             | succ k4 =>
              have H := HA.out
              clear HA
              simp only [trystref08_Formed.l1] at H
              by_cases c31 : x51_4 < x26_2
              ·rw [if_pos c31] at H
               have c31b0 : decide (x51_4 < x26_2) = true := decide_eq_true c31
               clear c31
               by_cases c32 : 0 ≤ x51_4
               ·rw [if_pos c32] at H
                have c32b0 : decide (0 ≤ x51_4) = true := decide_eq_true c32
                clear c32
                by_cases c33 : x51_4 < (l0_1.length : Int)
                ·rw [if_pos c33] at H
                 have c33b0 : decide (x51_4 < (l0_1.length : Int)) = true := decide_eq_true c33
                 clear c33
                 by_cases c34 : ((rd_T44 l0_1 x51_4).f0).toList = ((rd_T44 l0_1 x26_2).f0).toList
                 ·rw [if_pos c34] at H
                  have c34b0 : (((rd_T44 l0_1 x51_4).f0).toList == ((rd_T44 l0_1 x26_2).f0).toList) = true := beq_iff_eq.mpr c34
                  have c34b1 : (((rd_T44 l0_1 x51_4).f0).toList != ((rd_T44 l0_1 x26_2).f0).toList) = false := bne_eq_false_iff_eq.mpr c34
                  clear c34
                  obtain rfl := Option.some.inj H
                  have hnb35 := NB251_255.out
                  have hnc35 := NB255_251.out
                  have hcz36_0 : wr.cell? ⟨gb251, 0, none⟩ = some (.string a0_0) := (blk_cell BK251.out 0).trans rfl
                  have hcz36_1 : wr.cell? ⟨gb251, 1, none⟩ = some (.slice (some ad254) l0_1.length c0_1) := (blk_cell BK251.out 1).trans rfl
                  have hcz36_2 : wr.cell? ⟨gb251, 2, none⟩ = some (.string a0_2) := (blk_cell BK251.out 2).trans rfl
                  have hfz36_0 := blk_frozen BK251.out 0
                  have hfz36_1 := blk_frozen BK251.out 1
                  have hfz36_2 := blk_frozen BK251.out 2
                  have p257 : 0 ≤ (x51_4 : Int) := of_decide_eq_true (by first | (with_reducible assumption) | assumption)
                  have q257 : x51_4 < (l0_1.length : Int) := of_decide_eq_true (by first | (with_reducible assumption) | assumption)
                  obtain ⟨ad257, A257_1, c257_1, e257, hx257_0, hx257_1, hl257_1, hi257_1⟩ := at_T44 HR0_1.out x51_4 p257 q257
                  obtain rfl : ad254 = ad257 := (by injection e257)
                  replace hx257_0 := (HB.out.cell (World.block_lt_of_cell? w _ hx257_0)).trans hx257_0
                  replace hx257_1 := (HB.out.cell (World.block_lt_of_cell? w _ hx257_1)).trans hx257_1
                  have HR257_1 := Aside0.mk hi257_1
                  have HC257_1 := Aside0.mk hl257_1
                  clear hi257_1 hl257_1
                  replace p257 := eq_true p257
                  replace q257 := eq_true q257
                  have hcz37_0 : wr.cell? ⟨gb255, 0, none⟩ = some (.string ((rd_T44 l0_1 x26_2).f0)) := (blk_cell BK255.out 0).trans rfl
                  have hcz37_1 : wr.cell? ⟨gb255, 1, none⟩ = some (.slice A254_1 ((rd_T44 l0_1 x26_2).f1).length c254_1) := (blk_cell BK255.out 1).trans rfl
                  have hfz37_0 := blk_frozen BK255.out 0
                  have hfz37_1 := blk_frozen BK255.out 1
                  go_wp2
                  repeat (go_quiet (fail); try go_wp2)
                  go_ret
                  exact ⟨by first | rfl | (simp [errW_none, errW_some] <;> rfl) | (simp [*, errW_none, errW_some] <;> rfl), by repeat (first | (with_reducible first | exact HB.out | apply below_alloc | apply pw_below_drewN | apply below_drew1 | refine below_set ?_ GE251.out | refine below_set ?_ GE255.out) | exact HB.out)⟩
                 ·rw [if_neg c34] at H
                  have c34b0 : (((rd_T44 l0_1 x51_4).f0).toList == ((rd_T44 l0_1 x26_2).f0).toList) = false := beq_eq_false_iff_ne.mpr c34
                  have c34b1 : (((rd_T44 l0_1 x51_4).f0).toList != ((rd_T44 l0_1 x26_2).f0).toList) = true := bne_iff_ne.mpr c34
                  have H' := Aside0.mk H
                  clear H
                  have hnb38 := NB251_255.out
                  have hnc38 := NB255_251.out
                  have hcz39_0 : wr.cell? ⟨gb251, 0, none⟩ = some (.string a0_0) := (blk_cell BK251.out 0).trans rfl
                  have hcz39_1 : wr.cell? ⟨gb251, 1, none⟩ = some (.slice (some ad254) l0_1.length c0_1) := (blk_cell BK251.out 1).trans rfl
                  have hcz39_2 : wr.cell? ⟨gb251, 2, none⟩ = some (.string a0_2) := (blk_cell BK251.out 2).trans rfl
                  have hfz39_0 := blk_frozen BK251.out 0
                  have hfz39_1 := blk_frozen BK251.out 1
                  have hfz39_2 := blk_frozen BK251.out 2
                  have p257 : 0 ≤ (x51_4 : Int) := of_decide_eq_true (by first | (with_reducible assumption) | assumption)
                  have q257 : x51_4 < (l0_1.length : Int) := of_decide_eq_true (by first | (with_reducible assumption) | assumption)
                  obtain ⟨ad257, A257_1, c257_1, e257, hx257_0, hx257_1, hl257_1, hi257_1⟩ := at_T44 HR0_1.out x51_4 p257 q257
                  obtain rfl : ad254 = ad257 := (by injection e257)
                  replace hx257_0 := (HB.out.cell (World.block_lt_of_cell? w _ hx257_0)).trans hx257_0
                  replace hx257_1 := (HB.out.cell (World.block_lt_of_cell? w _ hx257_1)).trans hx257_1
                  have HR257_1 := Aside0.mk hi257_1
                  have HC257_1 := Aside0.mk hl257_1
                  clear hi257_1 hl257_1
                  replace p257 := eq_true p257
                  replace q257 := eq_true q257
                  have hcz40_0 : wr.cell? ⟨gb255, 0, none⟩ = some (.string ((rd_T44 l0_1 x26_2).f0)) := (blk_cell BK255.out 0).trans rfl
                  have hcz40_1 : wr.cell? ⟨gb255, 1, none⟩ = some (.slice A254_1 ((rd_T44 l0_1 x26_2).f1).length c254_1) := (blk_cell BK255.out 1).trans rfl
                  have hfz40_0 := blk_frozen BK255.out 0
                  have hfz40_1 := blk_frozen BK255.out 1
                  go_wp2
                  repeat (go_quiet (fail); try go_wp2)
                  go_roundg k4
                  case measure => have := HJ1.out; have := HK2.out; have := HJ15.out; have := HK4.out; omega
                  case rel => exact ⟨(wrap64 (x51_4 + 1)), (by first | rfl | (simp; done) | (simp [bne_nil_isEmpty, beq_nil_isEmpty]; done) | (simp [*]; done)), H', ⟨by have := HJ1.out; have := HK2.out; have := HJ15.out; have := HK4.out; omega⟩, ⟨by (with_reducible repeat (first | refine blk_drewN ?_ _ | refine blk_drew ?_ | refine blk_alloc ?_ _)); exact BK251.out⟩, ⟨by (with_reducible repeat (first | refine blk_drewN ?_ _ | refine blk_drew ?_ | refine blk_alloc ?_ _)); exact BK255.out⟩, ⟨by repeat (first | (with_reducible first | exact HB.out | apply below_alloc | apply pw_below_drewN | apply below_drew1 | refine below_set ?_ GE251.out | refine below_set ?_ GE255.out) | exact HB.out)⟩⟩
                ·rw [if_neg c33] at H
                 exact absurd H (by simp)
               ·rw [if_neg c32] at H
                exact absurd H (by simp)
              ·rw [if_neg c31] at H
               have c31b0 : decide (x51_4 < x26_2) = false := decide_eq_false c31
               clear c31
               have H' := Aside0.mk H
               clear H
               have hnb41 := NB255_251.out
               have hnc41 := NB251_255.out
               have hcz42_0 : wr.cell? ⟨gb255, 0, none⟩ = some (.string ((rd_T44 l0_1 x26_2).f0)) := (blk_cell BK255.out 0).trans rfl
               have hcz42_1 : wr.cell? ⟨gb255, 1, none⟩ = some (.slice A254_1 ((rd_T44 l0_1 x26_2).f1).length c254_1) := (blk_cell BK255.out 1).trans rfl
               have hfz42_0 := blk_frozen BK255.out 0
               have hfz42_1 := blk_frozen BK255.out 1
               go_wp2
               repeat (go_quiet (fail); try go_wp2)
               go_loopg [67] k4 (fun kq v67 w' => ∃ (x67_5 : Int), v67 = .int .i64 x67_5 ∧ Aside0 (trystref08_Formed.l2 kq (l0_1.length : Int) x26_2 (((rd_T44 l0_1 x26_2).f1).length : Int) x67_5 a0_0 l0_1 a0_2 ((rd_T44 l0_1 x26_2).f0) ((rd_T44 l0_1 x26_2).f1) = some r) ∧ Aside0 (kq ≤ k4) ∧ Aside0 (w'.heap[gb251]? = some (.cells #[.string a0_0, (.slice (some ad254) l0_1.length c0_1), .string a0_2] 24 (0, 0))) ∧ Aside0 (w'.heap[gb255]? = some (.cells #[.string ((rd_T44 l0_1 x26_2).f0), (.slice A254_1 ((rd_T44 l0_1 x26_2).f1).length c254_1)] 44 (0, 0))) ∧ Aside0 (Below w.heap.size w w'))
               case atStart => exact ⟨(0), (by first | rfl | (simp; done) | (simp [bne_nil_isEmpty, beq_nil_isEmpty]; done) | (simp [*]; done)), H', ⟨Nat.le_refl _⟩, ⟨by (with_reducible repeat (first | refine blk_drewN ?_ _ | refine blk_drew ?_ | refine blk_alloc ?_ _)); exact BK251.out⟩, ⟨by (with_reducible repeat (first | refine blk_drewN ?_ _ | refine blk_drew ?_ | refine blk_alloc ?_ _)); exact BK255.out⟩, ⟨by repeat (first | (with_reducible first | exact HB.out | apply below_alloc | apply pw_below_drewN | apply below_drew1 | refine below_set ?_ GE251.out | refine below_set ?_ GE255.out) | exact HB.out)⟩⟩
               case round =>
                clear H'
                try clear c1
                try clear c2
                try clear p2
                try clear q2
                try clear hx2
                try clear c3
                try clear c4
                try clear c5
                try clear c6
                try clear c6b0
                try clear c6b1
                try clear p6
                try clear c11
                try clear c12
                try clear c13
                try clear c13b0
                try clear c14
                try clear c14b0
                try clear c15
                try clear c15b0
                try clear c19
                try clear c22
                try clear c23
                try clear c23b0
                try clear c23b1
                try clear c24
                try clear c25
                try clear p25
                try clear q25
                try clear hx25
                try clear c26
                try clear c28
                try clear c30
                try clear c31
                try clear c31b0
                try clear c32
                try clear c32b0
                try clear c33
                try clear c33b0
                try clear c34
                try clear c34b0
                try clear c34b1
                try clear c35
                try clear c38
                try clear c41
                try clear hcz10_0
                try clear hcz10_1
                try clear hcz10_2
                try clear hcz12_0
                try clear hcz12_1
                try clear hcz12_2
                try clear hcz17_0
                try clear hcz17_1
                try clear hcz17_2
                try clear hcz20_0
                try clear hcz20_1
                try clear hcz25_0
                try clear hcz25_1
                try clear hcz27_0
                try clear hcz27_1
                try clear hcz29_0
                try clear hcz29_1
                try clear hcz36_0
                try clear hcz36_1
                try clear hcz36_2
                try clear hcz37_0
                try clear hcz37_1
                try clear hcz39_0
                try clear hcz39_1
                try clear hcz39_2
                try clear hcz40_0
                try clear hcz40_1
                try clear hcz42_0
                try clear hcz42_1
                try clear hcz7_0
                try clear hcz7_1
                try clear hcz7_2
                try clear hcz9_0
                try clear hcz9_1
                try clear hcz9_2
                try clear hfz10_0
                try clear hfz10_1
                try clear hfz10_2
                try clear hfz12_0
                try clear hfz12_1
                try clear hfz12_2
                try clear hfz17_0
                try clear hfz17_1
                try clear hfz17_2
                try clear hfz20_0
                try clear hfz20_1
                try clear hfz25_0
                try clear hfz25_1
                try clear hfz27_0
                try clear hfz27_1
                try clear hfz29_0
                try clear hfz29_1
                try clear hfz36_0
                try clear hfz36_1
                try clear hfz36_2
                try clear hfz37_0
                try clear hfz37_1
                try clear hfz39_0
                try clear hfz39_1
                try clear hfz39_2
                try clear hfz40_0
                try clear hfz40_1
                try clear hfz42_0
                try clear hfz42_1
                try clear hfz7_0
                try clear hfz7_1
                try clear hfz7_2
                try clear hfz9_0
                try clear hfz9_1
                try clear hfz9_2
                try clear hx254_0
                try clear hx254_1
                try clear hx257_0
                try clear hx257_1
                try clear p2
                try clear p25
                try clear p254
                try clear p257
                try clear q2
                try clear q25
                try clear q254
                try clear q257
                obtain ⟨x67_5, rfl, HA, HK5, BK251, BK255, HB⟩ := hrel
                cases gk with
                | zero => exact absurd HA.out (by simp [trystref08_Formed.l2])
                | succ k5 =>
                 have H := HA.out
                 clear HA
                 simp only [trystref08_Formed.l2] at H
                 by_cases c43 : x67_5 < (((rd_T44 l0_1 x26_2).f1).length : Int)
                 ·rw [if_pos c43] at H
                  have c43b0 : decide (x67_5 < (((rd_T44 l0_1 x26_2).f1).length : Int)) = true := decide_eq_true c43
                  clear c43
                  by_cases c44 : 0 ≤ x67_5
                  ·rw [if_pos c44] at H
                   have c44b0 : decide (0 ≤ x67_5) = true := decide_eq_true c44
                   clear c44
                   by_cases c45 : x67_5 < (((rd_T44 l0_1 x26_2).f1).length : Int)
                   ·rw [if_pos c45] at H
                    have c45b0 : decide (x67_5 < (((rd_T44 l0_1 x26_2).f1).length : Int)) = true := decide_eq_true c45
                    clear c45
                    replace H := Option.bind_eq_some_iff.mp H
                    obtain ⟨t259, A460, H⟩ := H
                    replace H : (if t259 = 0 then (trystref08_Formed.l2 k5 (l0_1.length : Int) x26_2 (((rd_T44 l0_1 x26_2).f1).length : Int) (wrap64 (x67_5 + 1)) a0_0 l0_1 a0_2 ((rd_T44 l0_1 x26_2).f0) ((rd_T44 l0_1 x26_2).f1)) else (some false)) = some r := H
                    have A46 := Aside0.mk A460
                    clear A460
                    by_cases c47 : t259 = 0
                    ·rw [if_pos c47] at H
                     have c47b0 : (t259 == 0) = true := beq_iff_eq.mpr c47
                     have c47b1 : (t259 != 0) = false := bne_eq_false_iff_eq.mpr c47
                     clear c47
                     have H' := Aside0.mk H
                     clear H
                     have hnb48 := NB255_251.out
                     have hnc48 := NB251_255.out
                     have hcz49_0 : wr.cell? ⟨gb255, 0, none⟩ = some (.string ((rd_T44 l0_1 x26_2).f0)) := (blk_cell BK255.out 0).trans rfl
                     have hcz49_1 : wr.cell? ⟨gb255, 1, none⟩ = some (.slice A254_1 ((rd_T44 l0_1 x26_2).f1).length c254_1) := (blk_cell BK255.out 1).trans rfl
                     have hfz49_0 := blk_frozen BK255.out 0
                     have hfz49_1 := blk_frozen BK255.out 1
                     have p258 : 0 ≤ (x67_5 : Int) := of_decide_eq_true (by first | (with_reducible assumption) | assumption)
                     have q258 : x67_5 < (((rd_T44 l0_1 x26_2).f1).length : Int) := of_decide_eq_true (by first | (with_reducible assumption) | assumption)
                     obtain ⟨ad258, e258, hx258_0⟩ := Kd.at_string HR254_1.out x67_5 p258 q258
                     cases e258
                     replace hx258_0 := (HB.out.cell (World.block_lt_of_cell? w _ hx258_0)).trans hx258_0
                     replace p258 := eq_true p258
                     replace q258 := eq_true q258
                     go_wp2_with (first | (go_at_call 28; (with_reducible refine (trystref08_Clean.calls k5 (rdOf ByteArray.empty ((rd_T44 l0_1 x26_2).f1) x67_5) true t259 _ (by first | (with_reducible exact hG) | exact GG.below hG (by repeat (first | (with_reducible first | exact HB.out | apply below_alloc | apply pw_below_drewN | apply below_drew1 | refine below_set ?_ GE251.out | refine below_set ?_ GE255.out) | exact HB.out))) A46.out).mono ?_); rintro e w' ⟨rfl, ⟨nd, rfl⟩⟩; (try first | exact ⟨rfl, _, World.drewN_drewN _ _ _⟩ | exact ⟨rfl, _, Eq.trans (World.drewN_drewN _ _ _) (congrArg (World.drewN _) (Nat.add_assoc _ _ _))⟩)))
                     repeat (go_quiet (first | (go_at_call 28; (with_reducible refine (trystref08_Clean.calls k5 (rdOf ByteArray.empty ((rd_T44 l0_1 x26_2).f1) x67_5) true t259 _ (by first | (with_reducible exact hG) | exact GG.below hG (by repeat (first | (with_reducible first | exact HB.out | apply below_alloc | apply pw_below_drewN | apply below_drew1 | refine below_set ?_ GE251.out | refine below_set ?_ GE255.out) | exact HB.out))) A46.out).mono ?_); rintro e w' ⟨rfl, ⟨nd, rfl⟩⟩; (try first | exact ⟨rfl, _, World.drewN_drewN _ _ _⟩ | exact ⟨rfl, _, Eq.trans (World.drewN_drewN _ _ _) (congrArg (World.drewN _) (Nat.add_assoc _ _ _))⟩))); try go_wp2_with (first | (go_at_call 28; (with_reducible refine (trystref08_Clean.calls k5 (rdOf ByteArray.empty ((rd_T44 l0_1 x26_2).f1) x67_5) true t259 _ (by first | (with_reducible exact hG) | exact GG.below hG (by repeat (first | (with_reducible first | exact HB.out | apply below_alloc | apply pw_below_drewN | apply below_drew1 | refine below_set ?_ GE251.out | refine below_set ?_ GE255.out) | exact HB.out))) A46.out).mono ?_); rintro e w' ⟨rfl, ⟨nd, rfl⟩⟩; (try first | exact ⟨rfl, _, World.drewN_drewN _ _ _⟩ | exact ⟨rfl, _, Eq.trans (World.drewN_drewN _ _ _) (congrArg (World.drewN _) (Nat.add_assoc _ _ _))⟩))))
                     go_roundg k5
                     case measure => have := HJ1.out; have := HK2.out; have := HJ15.out; have := HK4.out; have := HK5.out; omega
                     case rel => exact ⟨(wrap64 (x67_5 + 1)), (by first | rfl | (simp; done) | (simp [bne_nil_isEmpty, beq_nil_isEmpty]; done) | (simp [*]; done)), H', ⟨by have := HJ1.out; have := HK2.out; have := HJ15.out; have := HK4.out; have := HK5.out; omega⟩, ⟨by (with_reducible repeat (first | refine blk_drewN ?_ _ | refine blk_drew ?_ | refine blk_alloc ?_ _)); exact BK251.out⟩, ⟨by (with_reducible repeat (first | refine blk_drewN ?_ _ | refine blk_drew ?_ | refine blk_alloc ?_ _)); exact BK255.out⟩, ⟨by repeat (first | (with_reducible first | exact HB.out | apply below_alloc | apply pw_below_drewN | apply below_drew1 | refine below_set ?_ GE251.out | refine below_set ?_ GE255.out) | exact HB.out)⟩⟩
                    ·rw [if_neg c47] at H
                     have c47b0 : (t259 == 0) = false := beq_eq_false_iff_ne.mpr c47
                     have c47b1 : (t259 != 0) = true := bne_iff_ne.mpr c47
                     obtain rfl := Option.some.inj H
                     have hnb50 := NB255_251.out
                     have hnc50 := NB251_255.out
                     have hcz51_0 : wr.cell? ⟨gb255, 0, none⟩ = some (.string ((rd_T44 l0_1 x26_2).f0)) := (blk_cell BK255.out 0).trans rfl
                     have hcz51_1 : wr.cell? ⟨gb255, 1, none⟩ = some (.slice A254_1 ((rd_T44 l0_1 x26_2).f1).length c254_1) := (blk_cell BK255.out 1).trans rfl
                     have hfz51_0 := blk_frozen BK255.out 0
                     have hfz51_1 := blk_frozen BK255.out 1
                     have p258 : 0 ≤ (x67_5 : Int) := of_decide_eq_true (by first | (with_reducible assumption) | assumption)
                     have q258 : x67_5 < (((rd_T44 l0_1 x26_2).f1).length : Int) := of_decide_eq_true (by first | (with_reducible assumption) | assumption)
                     obtain ⟨ad258, e258, hx258_0⟩ := Kd.at_string HR254_1.out x67_5 p258 q258
                     cases e258
                     replace hx258_0 := (HB.out.cell (World.block_lt_of_cell? w _ hx258_0)).trans hx258_0
                     replace p258 := eq_true p258
                     replace q258 := eq_true q258
                     go_wp2_with (first | (go_at_call 28; (with_reducible refine (trystref08_Clean.calls k5 (rdOf ByteArray.empty ((rd_T44 l0_1 x26_2).f1) x67_5) true t259 _ (by first | (with_reducible exact hG) | exact GG.below hG (by repeat (first | (with_reducible first | exact HB.out | apply below_alloc | apply pw_below_drewN | apply below_drew1 | refine below_set ?_ GE251.out | refine below_set ?_ GE255.out) | exact HB.out))) A46.out).mono ?_); rintro e w' ⟨rfl, ⟨nd, rfl⟩⟩; (try first | exact ⟨rfl, _, World.drewN_drewN _ _ _⟩ | exact ⟨rfl, _, Eq.trans (World.drewN_drewN _ _ _) (congrArg (World.drewN _) (Nat.add_assoc _ _ _))⟩)))
                     repeat (go_quiet (first | (go_at_call 28; (with_reducible refine (trystref08_Clean.calls k5 (rdOf ByteArray.empty ((rd_T44 l0_1 x26_2).f1) x67_5) true t259 _ (by first | (with_reducible exact hG) | exact GG.below hG (by repeat (first | (with_reducible first | exact HB.out | apply below_alloc | apply pw_below_drewN | apply below_drew1 | refine below_set ?_ GE251.out | refine below_set ?_ GE255.out) | exact HB.out))) A46.out).mono ?_); rintro e w' ⟨rfl, ⟨nd, rfl⟩⟩; (try first | exact ⟨rfl, _, World.drewN_drewN _ _ _⟩ | exact ⟨rfl, _, Eq.trans (World.drewN_drewN _ _ _) (congrArg (World.drewN _) (Nat.add_assoc _ _ _))⟩))); try go_wp2_with (first | (go_at_call 28; (with_reducible refine (trystref08_Clean.calls k5 (rdOf ByteArray.empty ((rd_T44 l0_1 x26_2).f1) x67_5) true t259 _ (by first | (with_reducible exact hG) | exact GG.below hG (by repeat (first | (with_reducible first | exact HB.out | apply below_alloc | apply pw_below_drewN | apply below_drew1 | refine below_set ?_ GE251.out | refine below_set ?_ GE255.out) | exact HB.out))) A46.out).mono ?_); rintro e w' ⟨rfl, ⟨nd, rfl⟩⟩; (try first | exact ⟨rfl, _, World.drewN_drewN _ _ _⟩ | exact ⟨rfl, _, Eq.trans (World.drewN_drewN _ _ _) (congrArg (World.drewN _) (Nat.add_assoc _ _ _))⟩))))
                     go_ret
                     exact ⟨by first | rfl | (simp [errW_none, errW_some] <;> rfl) | (simp [*, errW_none, errW_some] <;> rfl), by repeat (first | (with_reducible first | exact HB.out | apply below_alloc | apply pw_below_drewN | apply below_drew1 | refine below_set ?_ GE251.out | refine below_set ?_ GE255.out) | exact HB.out)⟩
                   ·rw [if_neg c45] at H
                    exact absurd H (by simp)
                  ·rw [if_neg c44] at H
                   exact absurd H (by simp)
                 ·rw [if_neg c43] at H
                  have c43b0 : decide (x67_5 < (((rd_T44 l0_1 x26_2).f1).length : Int)) = false := decide_eq_false c43
                  clear c43
                  have H' := Aside0.mk H
                  clear H
                  go_wp2
                  repeat (go_quiet (fail); try go_wp2)
                  go_roundg k5
                  case measure => have := HJ1.out; have := HK2.out; have := HJ15.out; have := HK4.out; have := HK5.out; omega
                  case rel => exact ⟨(wrap64 (x26_2 + 1)), (by first | rfl | (simp; done) | (simp [bne_nil_isEmpty, beq_nil_isEmpty]; done) | (simp [*]; done)), H', ⟨by have := HJ1.out; have := HK2.out; have := HJ15.out; have := HK4.out; have := HK5.out; omega⟩, ⟨by (with_reducible repeat (first | refine blk_drewN ?_ _ | refine blk_drew ?_ | refine blk_alloc ?_ _)); exact BK251.out⟩, ⟨by repeat (first | (with_reducible first | exact HB.out | apply below_alloc | apply pw_below_drewN | apply below_drew1 | refine below_set ?_ GE251.out | refine below_set ?_ GE255.out) | exact HB.out)⟩⟩
        ·rw [if_neg c15] at H
         exact absurd H (by simp)
       ·rw [if_neg c14] at H
        exact absurd H (by simp)
      ·rw [if_neg c13] at H
       have c13b0 : decide (x26_2 < (l0_1.length : Int)) = false := decide_eq_false c13
       clear c13
       obtain rfl := Option.some.inj H
       go_wp2
       repeat (go_quiet (fail); try go_wp2)
       go_ret
       exact ⟨by first | rfl | (simp [errW_none, errW_some] <;> rfl) | (simp [*, errW_none, errW_some] <;> rfl), by repeat (first | (with_reducible first | exact HB.out | apply below_alloc | apply pw_below_drewN | apply below_drew1 | refine below_set ?_ GE251.out) | exact HB.out)⟩
end Go.Proofs.YtknmbalhbecdhaaGreatDoor.Print
end
section
set_option linter.unusedVariables false
set_option linter.unusedSimpArgs false
set_option linter.unusedSectionVars false
namespace Go.Proofs.YtknmbalhbecdhaaGreatDoor.Pure
open Go.RowKit Go.Proofs.YtknmbalhbecdhaaGreatDoor.Print Go.Proofs.YtknmbalhbecdhaaGreatDoorW.PrintWords Go.Proofs.YtknmbalhbecdhaaGreatDoorW.PrintLast
def upN (n : Nat) : Bool := (decide (65 ≤ n) && decide (n ≤ 90)) || (decide (48 ≤ n) && decide (n ≤ 57)) || n == 45
def upB (c : UInt8) : Bool := upN c.toNat
theorem sign_all : ∀ n : Fin 256, line_sign.f ((n.1 : Nat) : Int) true = some (upN n.1) := by decide +kernel
theorem letter_all : ∀ n : Fin 256, trystref08_letter.f ((n.1 : Nat) : Int) false = some (upN n.1) := by decide +kernel
theorem sign_up (c : UInt8) : line_sign.f c.toNat true = some (upB c) := sign_all ⟨c.toNat, c.toNat_lt⟩
theorem letter_up (c : UInt8) : trystref08_letter.f c.toNat false = some (upB c) := letter_all ⟨c.toNat, c.toNat_lt⟩
def nameR (s : ByteArray) : Bool := s.data.toList.all upB && (decide (1 ≤ s.size) && decide (s.size ≤ 60))
theorem nameL_ev (s : ByteArray) (hs : s.size ≤ 140737488351232) : ∀ (n i : Nat), s.size - i ≤ n → i ≤ s.size → Ev (fun k => line_Name.l0 k s (s.size : Int) i) ((s.data.toList.drop i).all upB && (decide (1 ≤ s.size) && decide (s.size ≤ 60)))
  | 0, i, h, hi => by
    obtain rfl : i = s.size := by omega
    refine Ev.step (f := fun _ => some (decide (1 ≤ s.size) && decide (s.size ≤ 60))) (fun k => ?_) ?_
    · simp only [line_Name.l0]; rw [if_neg (by omega)]
      by_cases h1 : 1 ≤ s.size
      · rw [if_pos (by omega), decide_eq_true h1, Bool.true_and]; exact congrArg some (decide_eq_decide.2 (by omega))
      · rw [if_neg (by omega), decide_eq_false h1, Bool.false_and]
    · rw [List.drop_of_length_le (by simp)]; exact Ev.now _
  | n + 1, i, h, hi => by
    by_cases hlt : i < s.size
    · rw [drop_at s i hlt]
      have hb := bt_nat s i
      have ih := nameL_ev s hs n (i + 1) (by omega) (by omega)
      generalize s.data.toList.getD i 0 = c at *
      refine Ev.step (f := fun k => if upB c = true then line_Name.l0 k s (s.size : Int) ((i + 1 : Nat) : Int) else some false) (fun k => ?_) ?_
      · simp only [line_Name.l0, hb, sign_up, Option.bind_some]
        rw [if_pos (by omega), if_pos (by omega), if_pos (by omega), wrap_one i (by omega)]
      · rw [List.all_cons]
        cases hok : upB c
        · exact Ev.now false
        · simpa using ih
    · exact nameL_ev s hs 0 i (by omega) hi
theorem nameL (s : ByteArray) (hs : s.size ≤ 140737488351232) : Ev (fun k => line_Name.f k s) (nameR s) := by
  have := nameL_ev s hs s.size 0 (by omega) (by omega)
  rw [List.drop_zero] at this
  exact this
theorem refName_ev (s : ByteArray) (hs : s.size ≤ 140737488351232) : ∀ (n i : Nat), s.size - i ≤ n → i ≤ s.size → Ev (fun k => trystref08_Name.l0 k s (s.size : Int) i) ((s.data.toList.drop i).all upB && (decide (1 ≤ s.size) && decide (s.size ≤ 60)))
  | 0, i, h, hi => by
    obtain rfl : i = s.size := by omega
    refine Ev.step (f := fun _ => some (decide (1 ≤ s.size) && decide (s.size ≤ 60))) (fun k => ?_) ?_
    · simp only [trystref08_Name.l0]; rw [if_neg (by omega)]
      by_cases h1 : 1 ≤ s.size
      · rw [if_pos (by omega), decide_eq_true h1, Bool.true_and]; exact congrArg some (decide_eq_decide.2 (by omega))
      · rw [if_neg (by omega), decide_eq_false h1, Bool.false_and]
    · rw [List.drop_of_length_le (by simp)]; exact Ev.now _
  | n + 1, i, h, hi => by
    by_cases hlt : i < s.size
    · rw [drop_at s i hlt]
      have hb := bt_nat s i
      have ih := refName_ev s hs n (i + 1) (by omega) (by omega)
      generalize s.data.toList.getD i 0 = c at *
      refine Ev.step (f := fun k => if upB c = true then trystref08_Name.l0 k s (s.size : Int) ((i + 1 : Nat) : Int) else some false) (fun k => ?_) ?_
      · simp only [trystref08_Name.l0, hb, letter_up, Option.bind_some]
        rw [if_pos (by omega), if_pos (by omega), if_pos (by omega), wrap_one i (by omega)]
      · rw [List.all_cons]
        cases hok : upB c
        · exact Ev.now false
        · simpa using ih
    · exact refName_ev s hs 0 i (by omega) hi
theorem refName (s : ByteArray) (hs : s.size ≤ 140737488351232) : Ev (fun k => trystref08_Name.f k s) (nameR s) := by
  have := refName_ev s hs s.size 0 (by omega) (by omega)
  rw [List.drop_zero] at this
  exact this
def cleanB (x : ByteArray) : Bool := decide (cleanR true x.data.toList = 0)
def parR (nm : ByteArray) (l : List ByteArray) : Bool := nameR nm && (decide (1 ≤ l.length) && (decide (l.length ≤ 60) && l.all cleanB))
theorem cleanB_ne {x : ByteArray} (h : cleanB x = false) : ¬ cleanR true x.data.toList = 0 := of_decide_eq_false h
theorem parL_ev (l : List ByteArray) (hl : l.length ≤ 60) (hs : ∀ x ∈ l, x.size ≤ 140737488351232) : ∀ (n i : Nat), i + n = l.length → Ev (fun k => line_Param_formed.l0 k l (l.length : Int) i) ((l.drop i).all cleanB)
  | 0, i, h => by
    rw [List.drop_eq_nil_of_le (by omega)]
    exact Ev.step (f := fun _ => some true) (fun k => by simp only [line_Param_formed.l0]; rw [if_neg (by omega)]) (Ev.now _)
  | n + 1, i, h => by
    have hil : i < l.length := by omega
    rw [List.drop_eq_getElem_cons hil, List.all_cons]
    refine Ev.step (f := fun k => (escape_Clean.f k l[i] true).bind fun t => if t = 0 then line_Param_formed.l0 k l (l.length : Int) ((i + 1 : Nat) : Int) else some false) (fun k => by simp only [line_Param_formed.l0]; rw [if_pos (by omega), if_pos (by omega), if_pos (by omega), rdS l i hil, wrapS i _ hil (by omega)]) ?_
    refine Ev.bind (escClean _ _ (hs _ (List.getElem_mem hil))) ?_
    have ih := parL_ev l hl hs n (i + 1) (by omega)
    cases hc : cleanB l[i] with
    | false => exact Ev.congr (f := fun _ => some false) (fun k => by rw [if_neg (cleanB_ne hc)]) (Ev.now _)
    | true => rw [Bool.true_and]; exact Ev.congr (fun k => by rw [if_pos (of_decide_eq_true hc)]) ih
theorem parL_f (nm : ByteArray) (l : List ByteArray) (hn : nm.size ≤ 140737488351232) (hs : ∀ x ∈ l, x.size ≤ 140737488351232) : Ev (fun k => line_Param_formed.f k nm l) (parR nm l) := by
  have hno : Ev (fun k => line_Param_formed.j0 k true nm l) false := Ev.step (f := fun _ => some false) (fun k => by simp only [line_Param_formed.j0]; rfl) (Ev.now _)
  refine Ev.bind (nameL nm hn) ?_
  unfold parR
  cases nameR nm with
  | false => exact Ev.congr (fun k => by rw [if_neg (by simp)]) hno
  | true =>
    by_cases h1 : 1 ≤ l.length
    · by_cases h2 : l.length ≤ 60
      · rw [decide_eq_true h1, decide_eq_true h2]
        have e : decide ((l.length : Int) > 60) = false := decide_eq_false (by omega)
        refine Ev.congr (f := fun k => line_Param_formed.j0 k false nm l) (fun k => by rw [if_pos rfl, if_neg (by omega), e]) ?_
        have := parL_ev l h2 hs l.length 0 (by omega)
        rw [List.drop_zero] at this
        exact Ev.step (fun k => by simp only [line_Param_formed.j0]; rfl) this
      · rw [decide_eq_true h1, decide_eq_false h2]
        have e : decide ((l.length : Int) > 60) = true := decide_eq_true (by omega)
        exact Ev.congr (fun k => by rw [if_pos rfl, if_neg (by omega), e]) hno
    · rw [decide_eq_false h1]
      exact Ev.congr (fun k => by rw [if_pos rfl, if_pos (by omega)]) hno
def okPs : List LP → List LP → Bool
  | _, [] => true
  | seen, p :: t => parR p.f0 p.f1 && (!seen.any (hasN p.f0) && okPs (seen ++ [p]) t)
def formR (nm : ByteArray) (l : List LP) (v : ByteArray) : Bool := nameR nm && (decide (l.length ≤ 60) && (decide (cleanR false v.data.toList = 0) && okPs [] l))
theorem idxN_any (a : ByteArray) : ∀ (l : List LP) (i : Nat), decide (idxN a l i ≥ 0) = l.any (hasN a)
  | [], i => rfl
  | p :: t, i => by
    rw [idxN, List.any_cons]
    cases h : hasN a p with
    | true => rw [if_pos rfl, Bool.true_or]; exact decide_eq_true (by omega)
    | false => rw [if_neg (by simp), Bool.false_or]; exact idxN_any a t (i + 1)
theorem rdP (l : List LP) (i : Nat) (h : i < l.length) : rd_T53 l (i : Int) = l[i] := by
  unfold rd_T53
  rw [Int.toNat_natCast, List.getD_eq_getElem?_getD, List.getElem?_eq_getElem h]; rfl
def ParB' (p : LP) : Prop := p.f0.size ≤ 140737488351232 ∧ ∀ x ∈ p.f1, x.size ≤ 140737488351232
theorem formL_ev (nm v : ByteArray) (l : List LP) (hl : l.length ≤ 60) (hs : ∀ p ∈ l, ParB' p) : ∀ (n i : Nat), i + n = l.length → Ev (fun k => line_Formed.l0 k l (l.length : Int) i nm l v) (okPs (l.take i) (l.drop i))
  | 0, i, h => by
    rw [List.drop_eq_nil_of_le (by omega)]
    exact Ev.step (f := fun _ => some true) (fun k => by simp only [line_Formed.l0]; rw [if_neg (by omega)]) (Ev.now _)
  | n + 1, i, h => by
    have hil : i < l.length := by omega
    rw [List.drop_eq_getElem_cons hil, okPs]
    have hp := hs _ (List.getElem_mem hil)
    refine Ev.step (f := fun k => (line_Param_formed.f k l[i].f0 l[i].f1).bind fun t => if t = true then (if idxN l[i].f0 (l.take i) 0 ≥ 0 then some false else line_Formed.l0 k l (l.length : Int) ((i + 1 : Nat) : Int) nm l v) else some false) (fun k => by
      simp only [line_Formed.l0]
      rw [if_pos (by omega), if_pos (by omega), if_pos (by omega), rdP l i hil, wrapS i _ hil (by omega), if_pos (show (i : Int) ≤ (l.length : Int) by omega)]
      rfl) ?_
    refine Ev.bind (parL_f _ _ hp.1 hp.2) ?_
    have ih := formL_ev nm v l hl hs n (i + 1) (by omega)
    rw [List.take_succ_eq_append_getElem hil] at ih
    cases hc : parR l[i].f0 l[i].f1 with
    | false => exact Ev.congr (f := fun _ => some false) (fun k => by rw [if_neg (by simp)]) (Ev.now _)
    | true =>
      rw [Bool.true_and]
      have hi := idxN_any l[i].f0 (l.take i) 0
      cases ha : (l.take i).any (hasN l[i].f0) with
      | true =>
        rw [ha] at hi
        exact Ev.congr (f := fun _ => some false) (fun k => by rw [if_pos rfl, if_pos (of_decide_eq_true hi)]) (Ev.now _)
      | false =>
        rw [ha] at hi
        rw [Bool.not_false, Bool.true_and]
        exact Ev.congr (fun k => by rw [if_pos rfl, if_neg (of_decide_eq_false hi)]) ih
theorem formL (nm v : ByteArray) (l : List LP) (hn : nm.size ≤ 140737488351232) (hv : v.size ≤ 140737488351232) (hs : ∀ p ∈ l, ParB' p) : Ev (fun k => line_Formed.f k nm l v) (formR nm l v) := by
  have hno : Ev (fun k => line_Formed.j0 k true nm l v) false := Ev.step (f := fun _ => some false) (fun k => by simp only [line_Formed.j0]; rfl) (Ev.now _)
  refine Ev.bind (nameL nm hn) ?_
  unfold formR
  cases nameR nm with
  | false => exact Ev.congr (fun k => by rw [if_neg (by simp)]) hno
  | true =>
    by_cases h2 : l.length ≤ 60
    · rw [decide_eq_true h2]
      refine Ev.congr (f := fun k => (escape_Clean.f k v false).bind fun t => line_Formed.j0 k (t != 0) nm l v) (fun k => by rw [if_pos rfl, if_neg (by omega)]) ?_
      refine Ev.bind (escClean v false hv) ?_
      by_cases h3 : cleanR false v.data.toList = 0
      · rw [decide_eq_true h3, h3]
        have := formL_ev nm v l h2 hs l.length 0 (by omega)
        rw [List.drop_zero, List.take_zero] at this
        exact Ev.step (fun k => by simp only [line_Formed.j0]; rfl) this
      · rw [decide_eq_false h3]
        have e : (cleanR false v.data.toList != 0) = true := by simpa using h3
        rw [e]; exact hno
    · rw [decide_eq_false h2]
      exact Ev.congr (fun k => by rw [if_pos rfl, if_pos (by omega)]) hno
theorem refF2_ev (nm v pn : ByteArray) (l : List RP) (x : List ByteArray) (i : Nat) (hil : i < l.length) (hl : l.length ≤ 60) (hx : x.length ≤ 60) (hs : ∀ z ∈ x, z.size ≤ 140737488351232) {b : Bool} (hb : Ev (fun k => trystref08_Formed.l0 k (l.length : Int) ((i + 1 : Nat) : Int) nm l v) b) :
    ∀ (n j : Nat), j + n = x.length → Ev (fun k => trystref08_Formed.l2 k (l.length : Int) (i : Int) (x.length : Int) j nm l v pn x) ((x.drop j).all cleanB && b)
  | 0, j, h => by
    rw [List.drop_eq_nil_of_le (by omega), List.all_nil, Bool.true_and]
    exact Ev.step (fun k => by simp only [trystref08_Formed.l2]; rw [if_neg (by omega), wrapS i _ hil (by omega)]) hb
  | n + 1, j, h => by
    have hjl : j < x.length := by omega
    rw [List.drop_eq_getElem_cons hjl, List.all_cons]
    refine Ev.step (f := fun k => (trystref08_Clean.f k x[j] true).bind fun t => if t = 0 then trystref08_Formed.l2 k (l.length : Int) (i : Int) (x.length : Int) ((j + 1 : Nat) : Int) nm l v pn x else some false) (fun k => by simp only [trystref08_Formed.l2]; rw [if_pos (by omega), if_pos (by omega), if_pos (by omega), rdS x j hjl, wrapS j _ hjl (by omega)]) ?_
    refine Ev.bind (refClean _ _ (hs _ (List.getElem_mem hjl))) ?_
    have ih := refF2_ev nm v pn l x i hil hl hx hs hb n (j + 1) (by omega)
    cases hc : cleanB x[j] with
    | false => exact Ev.congr (f := fun _ => some false) (fun k => by rw [if_neg (cleanB_ne hc)]) (Ev.now _)
    | true => rw [Bool.true_and]; exact Ev.congr (fun k => by rw [if_pos (of_decide_eq_true hc)]) ih
theorem refF1_ev (nm v pn : ByteArray) (l : List RP) (x : List ByteArray) (i : Nat) (hil : i < l.length) (hl : l.length ≤ 60) (hx : x.length ≤ 60) (hs : ∀ z ∈ x, z.size ≤ 140737488351232) {b : Bool} (hb : Ev (fun k => trystref08_Formed.l0 k (l.length : Int) ((i + 1 : Nat) : Int) nm l v) b) :
    ∀ (n j : Nat), j + n = i → Ev (fun k => trystref08_Formed.l1 k (l.length : Int) (i : Int) (i : Int) j nm l v pn x) (!((((l.take i).drop j).map toP).any (hasN pn)) && (x.all cleanB && b))
  | 0, j, h => by
    rw [List.drop_eq_nil_of_le (by rw [List.length_take]; omega), List.map_nil, List.any_nil, Bool.not_false, Bool.true_and]
    have := refF2_ev nm v pn l x i hil hl hx hs hb x.length 0 (by omega)
    rw [List.drop_zero] at this
    exact Ev.step (fun k => by simp only [trystref08_Formed.l1]; rw [if_neg (by omega)]; rfl) this
  | n + 1, j, h => by
    have hjl : j < l.length := by omega
    have hjt : j < (l.take i).length := by rw [List.length_take]; omega
    rw [List.drop_eq_getElem_cons hjt, List.map_cons, List.any_cons, List.getElem_take]
    have ih := refF1_ev nm v pn l x i hil hl hx hs hb n (j + 1) (by omega)
    by_cases hc : l[j].f0 = pn
    · have hh : hasN pn (toP l[j]) = true := decide_eq_true hc
      rw [hh, Bool.true_or, Bool.not_true, Bool.false_and]
      exact Ev.step (f := fun _ => some false) (fun k => by simp only [trystref08_Formed.l1]; rw [if_pos (by omega), if_pos (by omega), if_pos (by omega), rdR l j hjl, if_pos (by rw [hc])]) (Ev.now _)
    · have hh : hasN pn (toP l[j]) = false := decide_eq_false hc
      rw [hh, Bool.false_or]
      exact Ev.step (fun k => by simp only [trystref08_Formed.l1]; rw [if_pos (by omega), if_pos (by omega), if_pos (by omega), rdR l j hjl, if_neg (fun e => hc (toList_ba.1 e)), wrapS j _ hjl (by omega)]) ih
theorem refF_ev (nm v : ByteArray) (l : List RP) (hl : l.length ≤ 60) (hs : ∀ p ∈ l, ParB' (toP p)) : ∀ (n i : Nat), i + n = l.length → Ev (fun k => trystref08_Formed.l0 k (l.length : Int) i nm l v) (okPs ((l.take i).map toP) ((l.drop i).map toP))
  | 0, i, h => by
    rw [List.drop_eq_nil_of_le (by omega)]
    exact Ev.step (f := fun _ => some true) (fun k => by simp only [trystref08_Formed.l0]; rw [if_neg (by omega)]) (Ev.now _)
  | n + 1, i, h => by
    have hil : i < l.length := by omega
    have hp := hs _ (List.getElem_mem hil)
    have ih := refF_ev nm v l hl hs n (i + 1) (by omega)
    rw [List.take_succ_eq_append_getElem hil, List.map_append, List.map_cons, List.map_nil] at ih
    rw [List.drop_eq_getElem_cons hil, List.map_cons, okPs]
    show Ev _ (parR l[i].f0 l[i].f1 && _)
    have hno : Ev (fun k => trystref08_Formed.j2 k (i : Int) (l.length : Int) (i : Int) true nm l v l[i].f0 l[i].f1) false := Ev.step (f := fun _ => some false) (fun k => by simp only [trystref08_Formed.j2]; rfl) (Ev.now _)
    refine Ev.step (f := fun k => (trystref08_Name.f k l[i].f0).bind fun t => if t = true then (if (l[i].f1.length : Int) < 1 then trystref08_Formed.j2 k (i : Int) (l.length : Int) (i : Int) true nm l v l[i].f0 l[i].f1 else trystref08_Formed.j2 k (i : Int) (l.length : Int) (i : Int) (decide ((l[i].f1.length : Int) > 60)) nm l v l[i].f0 l[i].f1) else trystref08_Formed.j2 k (i : Int) (l.length : Int) (i : Int) true nm l v l[i].f0 l[i].f1) (fun k => by
      simp only [trystref08_Formed.l0]
      rw [if_pos (by omega), if_pos (by omega), if_pos (by omega), rdR l i hil]) ?_
    refine Ev.bind (refName _ hp.1) ?_
    unfold parR
    cases nameR l[i].f0 with
    | false => exact Ev.congr (fun k => by rw [if_neg (by simp)]) hno
    | true =>
      by_cases h1 : 1 ≤ l[i].f1.length
      · by_cases h2 : l[i].f1.length ≤ 60
        · rw [decide_eq_true h1, decide_eq_true h2]
          have e : decide ((l[i].f1.length : Int) > 60) = false := decide_eq_false (by omega)
          refine Ev.congr (f := fun k => trystref08_Formed.j2 k (i : Int) (l.length : Int) (i : Int) false nm l v l[i].f0 l[i].f1) (fun k => by rw [if_pos rfl, if_neg (by omega), e]) ?_
          have := refF1_ev nm v l[i].f0 l l[i].f1 i hil hl h2 hp.2 ih i 0 (by omega)
          rw [List.drop_zero] at this
          have e2 : (true && (true && (true && l[i].f1.all cleanB)) && (!(List.map toP (l.take i)).any (hasN (toP l[i]).f0) && okPs (List.map toP (l.take i) ++ [toP l[i]]) (List.map toP (l.drop (i + 1))))) = (!((l.take i).map toP).any (hasN l[i].f0) && (l[i].f1.all cleanB && okPs (List.map toP (l.take i) ++ [toP l[i]]) (List.map toP (l.drop (i + 1))))) := by
            show (_ && (!((l.take i).map toP).any (hasN l[i].f0) && _)) = _
            cases ((l.take i).map toP).any (hasN l[i].f0) <;> cases l[i].f1.all cleanB <;> simp
          rw [e2]
          exact Ev.step (fun k => by simp only [trystref08_Formed.j2]; rfl) this
        · rw [decide_eq_true h1, decide_eq_false h2]
          have e : decide ((l[i].f1.length : Int) > 60) = true := decide_eq_true (by omega)
          exact Ev.congr (fun k => by rw [if_pos rfl, if_neg (by omega), e]) hno
      · rw [decide_eq_false h1]
        exact Ev.congr (fun k => by rw [if_pos rfl, if_pos (by omega)]) hno
theorem refF (nm v : ByteArray) (l : List RP) (hn : nm.size ≤ 140737488351232) (hv : v.size ≤ 140737488351232) (hs : ∀ p ∈ l, ParB' (toP p)) : Ev (fun k => trystref08_Formed.f k nm l v) (formR nm (l.map toP) v) := by
  have hno : Ev (fun k => trystref08_Formed.j0 k true nm l v) false := Ev.step (f := fun _ => some false) (fun k => by simp only [trystref08_Formed.j0]; rfl) (Ev.now _)
  refine Ev.bind (refName nm hn) ?_
  unfold formR
  rw [List.length_map]
  cases nameR nm with
  | false => exact Ev.congr (fun k => by rw [if_neg (by simp)]) hno
  | true =>
    by_cases h2 : l.length ≤ 60
    · rw [decide_eq_true h2]
      refine Ev.congr (f := fun k => (trystref08_Clean.f k v false).bind fun t => trystref08_Formed.j0 k (t != 0) nm l v) (fun k => by rw [if_pos rfl, if_neg (by omega)]) ?_
      refine Ev.bind (refClean v false hv) ?_
      by_cases h3 : cleanR false v.data.toList = 0
      · rw [decide_eq_true h3, h3]
        have := refF_ev nm v l h2 hs l.length 0 (by omega)
        rw [List.drop_zero, List.take_zero] at this
        exact Ev.step (fun k => by simp only [trystref08_Formed.j0]; rfl) this
      · rw [decide_eq_false h3]
        have e : (cleanR false v.data.toList != 0) = true := by simpa using h3
        rw [e]; exact hno
    · rw [decide_eq_false h2]
      exact Ev.congr (fun k => by rw [if_pos rfl, if_pos (by omega)]) hno
end Go.Proofs.YtknmbalhbecdhaaGreatDoor.Pure
end
section
namespace Go.Proofs.YtknmbalhbecdhaaGreatDoor.Print
open Go.RowKit Go.Proofs.YtknmbalhbecdhaaGreatDoorW.PrintWords Go.Proofs.YtknmbalhbecdhaaGreatDoorW.PrintLast
set_option linter.unusedVariables false
set_option linter.unusedSimpArgs false
def trystref08_Param.l0 : Nat → ByteArray → List Int → Bool → Int → Int → Option (ByteArray × Int)
 | 0, _, _, _, _, _ => none
 | k + 1, x0, x5, x6, x14, x15 => if x15 < x14 then (if 0 ≤ x15 then (if x15 < (x0.size : Int) then (if (bt x0 x15) = 94 then ((some (([94, 94] : List Int) : List Int)).bind fun y261 => (if x5.length + y261.length < 140737488355328 then (trystref08_Param.l0 k x0 (x5 ++ y261) x6 x14 (wrap64 (x15 + 1))) else (none))) else (if (bt x0 x15) = 10 then ((some (([94, 110] : List Int) : List Int)).bind fun y267 => (if x5.length + y267.length < 140737488355328 then (trystref08_Param.l0 k x0 (x5 ++ y267) x6 x14 (wrap64 (x15 + 1))) else (none))) else (if (bt x0 x15) = 34 then ((some (([94, 39] : List Int) : List Int)).bind fun y273 => (if x5.length + y273.length < 140737488355328 then (trystref08_Param.l0 k x0 (x5 ++ y273) x6 x14 (wrap64 (x15 + 1))) else (none))) else (if x6 = true then (if x5.length < 140737488355328 then (trystref08_Param.l0 k x0 (x5 ++ [bt x0 x15]) true x14 (wrap64 (x15 + 1))) else (none)) else (if (bt x0 x15) = 58 then (if x5.length < 140737488355328 then (trystref08_Param.l0 k x0 (x5 ++ [bt x0 x15]) true x14 (wrap64 (x15 + 1))) else (none)) else (if (bt x0 x15) = 59 then (if x5.length < 140737488355328 then (trystref08_Param.l0 k x0 (x5 ++ [bt x0 x15]) true x14 (wrap64 (x15 + 1))) else (none)) else (if x5.length < 140737488355328 then (trystref08_Param.l0 k x0 (x5 ++ [bt x0 x15]) ((bt x0 x15) == 44) x14 (wrap64 (x15 + 1))) else (none)))))))) else (none)) else (none)) else (if x6 = true then (if 1 + (strOfNums x5).size ≤ 9223372036854775807 then (if ((⟨#[34]⟩ : ByteArray) ++ (strOfNums x5)).size + 1 ≤ 9223372036854775807 then (some (((⟨#[34]⟩ : ByteArray) ++ (strOfNums x5)) ++ (⟨#[34]⟩ : ByteArray), 0)) else (none)) else (none)) else (some (strOfNums x5, 0)))
def trystref08_Param.f (k : Nat) (a0 : ByteArray) : Option (ByteArray × Int) := (trystref08_Clean.f k a0 true).bind fun t260 => (if t260 = 0 then (trystref08_Param.l0 k a0 ([] : List Int) false (a0.size : Int) 0) else (some ((⟨#[]⟩ : ByteArray), t260)))
set_option maxHeartbeats 8000000 in
set_option maxRecDepth 100000 in
theorem trystref08_Param.calls (k : Nat) (a0 : ByteArray) (r1 : ByteArray) (r2 : Int) (w : World) (hG : GG w) (h : trystref08_Param.f k a0 = some (r1, r2)) :
  Calls Tryz.prog 24 #[.string a0] w fun e w' => e = .returned (.tuple #[.string r1, .int .i64 r2]) ∧ Below w.heap.size w w' := by
 have HB := Aside0.mk (Below.refl w.heap.size w)
 have H : ((trystref08_Clean.f k a0 true).bind fun t260 => (if t260 = 0 then (trystref08_Param.l0 k a0 ([] : List Int) false (a0.size : Int) 0) else (some ((⟨#[]⟩ : ByteArray), t260)))) = some (r1, r2) := h
 clear h
 replace H := Option.bind_eq_some_iff.mp H
 obtain ⟨t260, A20, H⟩ := H
 replace H : (if t260 = 0 then (trystref08_Param.l0 k a0 ([] : List Int) false (a0.size : Int) 0) else (some ((⟨#[]⟩ : ByteArray), t260))) = some (r1, r2) := H
 have A2 := Aside0.mk A20
 clear A20
 by_cases c3 : t260 = 0
 ·rw [if_pos c3] at H
  have c3b0 : (t260 == 0) = true := beq_iff_eq.mpr c3
  have c3b1 : (t260 != 0) = false := bne_eq_false_iff_eq.mpr c3
  clear c3
  have H' := Aside0.mk H
  clear H
  go_enter Tryz.func24, Tryz.ntmps24
  go_wp2_with (first | ((with_reducible refine gate_callee (f := 28) rfl ?_); refine goesL_ (some 9) rfl rfl Tryz.func28 (by kernel_rfl) rfl #[.string a0, .bool true] rfl (by (try simp only [List.map_toArray, List.map_cons, List.map_nil]); first | done | rfl | (simp only [List.length_drop, List.length_take]; rfl)) ?_; (with_reducible refine (trystref08_Clean.calls k a0 true t260 _ (by first | (with_reducible exact hG) | exact GG.below hG (by repeat (first | (with_reducible first | exact HB.out | apply below_alloc | apply pw_below_drewN | apply below_drew1) | exact HB.out))) A2.out).mono ?_); rintro e w' ⟨rfl, ⟨nd, rfl⟩⟩; refine ⟨_, rfl, ?_⟩))
  go_loopg [5, 6, 15] k (fun kq v5 v6 v15 w' => ∃ (x5_1 : List Int) (x6_1 : Bool) (x15_1 : Int), v6 = .bool x6_1 ∧ v15 = .int .i64 x15_1 ∧ Aside0 (trystref08_Param.l0 kq a0 x5_1 x6_1 (a0.size : Int) x15_1 = some (r1, r2)) ∧ Aside0 (kq ≤ k) ∧ Aside0 (Kd.R (Kd.int .u8) 5 w' w.heap.size (fun _ => True) v5 x5_1) ∧ Aside0 (Below w.heap.size w w'))
  case atStart => exact ⟨(([] : List Int)), (false), (0), (by first | rfl | (simp; done) | (simp [bne_nil_isEmpty, beq_nil_isEmpty]; done) | (simp [*]; done)), (by first | rfl | (simp; done) | (simp [bne_nil_isEmpty, beq_nil_isEmpty]; done) | (simp [*]; done)), H', ⟨Nat.le_refl _⟩, ⟨by first | exact Kd.R_nil _ _ _ _ _ | exact Kd.N_nil _ _ _ _ _ | exact Kd.V_nil _ _ _ _ _ | exact Kd.Q_nil _ _ _ _ _ | exact Kd.S_nil _ _ _ _ _⟩, ⟨by repeat (first | (with_reducible first | exact HB.out | apply below_alloc | apply pw_below_drewN | apply below_drew1) | exact HB.out)⟩⟩
  case round =>
   clear H'
   try clear c2
   try clear p2
   try clear c3
   try clear c3b0
   try clear c3b1
   obtain ⟨x5_1, x6_1, x15_1, rfl, rfl, HA, HK1, HO_5, HB⟩ := hrel
   cases gk with
   | zero => exact absurd HA.out (by simp [trystref08_Param.l0])
   | succ k1 =>
    have H := HA.out
    clear HA
    simp only [trystref08_Param.l0] at H
    by_cases c4 : x15_1 < (a0.size : Int)
    ·rw [if_pos c4] at H
     have c4b0 : decide (x15_1 < (a0.size : Int)) = true := decide_eq_true c4
     clear c4
     by_cases c5 : 0 ≤ x15_1
     ·rw [if_pos c5] at H
      have c5b0 : decide (0 ≤ x15_1) = true := decide_eq_true c5
      clear c5
      by_cases c6 : x15_1 < (a0.size : Int)
      ·rw [if_pos c6] at H
       have c6b0 : decide (x15_1 < (a0.size : Int)) = true := decide_eq_true c6
       clear c6
       by_cases c8 : (bt a0 x15_1) = 94
       ·rw [if_pos c8] at H
        have c8b0 : ((bt a0 x15_1) == 94) = true := beq_iff_eq.mpr c8
        have c8b1 : ((bt a0 x15_1) != 94) = false := bne_eq_false_iff_eq.mpr c8
        clear c8
        obtain ⟨y261, hy261⟩ : ∃ y_ : List Int, y_ = (([94, 94] : List Int)) := ⟨_, rfl⟩
        replace H : (if x5_1.length + y261.length < 140737488355328 then (trystref08_Param.l0 k1 a0 (x5_1 ++ y261) x6_1 (a0.size : Int) (wrap64 (x15_1 + 1))) else (none)) = some (r1, r2) := by first | (rw [hy261]; with_reducible exact H) | (have H2_ := (Option.bind_some _ _).symm.trans H; rw [hy261]; with_reducible exact H2_) | (have H2_ := (Option.bind_some _ _).symm.trans H; with_reducible exact H2_) | with_reducible exact H | (rw [hy261]; exact H) | exact H
        have Ny261 := Aside0.mk hy261
        clear hy261
        by_cases c9 : x5_1.length + y261.length < 140737488355328
        ·rw [if_pos c9] at H
         have LMc9 := Aside0.mk c9
         clear c9
         obtain ⟨y264, hy264⟩ : ∃ y_ : List Int, y_ = (x5_1 ++ y261) := ⟨_, rfl⟩
         replace H : (trystref08_Param.l0 k1 a0 y264 x6_1 (a0.size : Int) (wrap64 (x15_1 + 1))) = some (r1, r2) := by first | (rw [hy264]; with_reducible exact H) | (have H2_ := (Option.bind_some _ _).symm.trans H; rw [hy264]; with_reducible exact H2_) | (have H2_ := (Option.bind_some _ _).symm.trans H; with_reducible exact H2_) | with_reducible exact H | (rw [hy264]; exact H) | exact H
         have Ny264 := Aside0.mk hy264
         clear hy264
         have H' := Aside0.mk H
         clear H
         have p7 : 0 ≤ (x15_1 : Int) := of_decide_eq_true (by first | (with_reducible assumption) | assumption)
         have q7 : x15_1 < (a0.size : Int) := of_decide_eq_true (by first | (with_reducible assumption) | assumption)
         have hx7 := bt_at a0 x15_1
         replace p7 := eq_true p7
         replace q7 := eq_true q7
         go_wp2_with (first | ((with_reducible refine gate_dst (N := 49) rfl ?_); refine Kd.R_lit (Kd.int .u8) _ 5 ?hg (N := 49) ?hd (xs := ([94, 94] : List Int)) (inner := [.int .u8 94, .int .u8 94]) (ok := fun _ => True) (okp := fun _ => True) ?hr ?hp (fun _ hk => hk) trivial (Below.refl _ _) (Nat.le_refl _) (by simp) ?_; (case hd => rfl); (case hg => rfl); (case hr => first | (go_simp; done) | (go_simp; rfl)); (case hp => exact (Reps.one (show Kd.M (Kd.int .u8) _ _ _ 94 [.int .u8 94] from rfl) (Reps.one (show Kd.M (Kd.int .u8) _ _ _ 94 [.int .u8 94] from rfl) (Reps.none _ _)))); intro v262 w10 ho11 hb hg_ hnew_; clear hg_ hnew_; (first | rw [← Ny261.out] at ho11 | (simp only [Int.reduceToNat] at ho11; rw [← Ny261.out] at ho11)); have n0_ := Aside0.mk (Kd.R_elder' (by (with_reducible repeat (first | apply Kd.R_alloc | apply Kd.R_drewN | apply Kd.R_drew)); exact HO_5.out) (Kd.R_base ho11) hb); have n1_ := Aside0.mk (Kd.R_lower (Kd.R_new' ho11 (Kd.R_lt (by (with_reducible repeat (first | apply Kd.R_alloc | apply Kd.R_drewN | apply Kd.R_drew)); exact HO_5.out))) (below_size (by repeat (first | (with_reducible first | exact HB.out | apply below_alloc | apply pw_below_drewN | apply below_drew1) | exact HB.out)))); have n2_ := Aside0.mk (below_step (by repeat (first | (with_reducible first | exact HB.out | apply below_alloc | apply pw_below_drewN | apply below_drew1) | exact HB.out)) hb); clear HO_5; clear HB; have HO_5 := n0_; have HO263 := n1_; have HB := n2_; clear n0_ n1_ n2_; clear hb ho11; obtain ⟨Ao13, co13, eo13⟩ := Kd.R_slice HO263.out; subst eo13) | ((with_reducible refine gate_builtin (b := .append) (xs := #[.tmp 48, .tmp 49]) rfl ?_); at_builtin; refine Kd.R_append_rows (Kd.int .u8) (w0 := w) w.heap.size rfl (.tmp 48) (.tmp 49) 46 5 (.int .u8 0) 1 rfl Tryz.underlying46 info5 rfl (by decide) (by omega) u5 x5_1 y261 _ _ _ (fun _ => True) (fun _ => False) rfl rfl ?aO ?aR (fun _ _ h => h) (fun _ h => h.elim) ?aF ?aB ?aS ?aL ?_; (case aR => repeat (first | exact (Kd.R_reads' HO263.out).2.2 | (with_reducible refine Kd.C_alloc ?_ _) | (with_reducible refine Kd.C_drewN ?_ _) | (with_reducible refine Kd.C_drew ?_))); (case aB => exact (by repeat (first | (with_reducible first | exact HB.out | apply below_alloc | apply pw_below_drewN | apply below_drew1) | exact HB.out))); (case aF => exact (fun _ _ => trivial)); (case aO => exact (by (with_reducible repeat (first | apply Kd.R_alloc | apply Kd.R_drewN | apply Kd.R_drew)); exact Kd.R_mono HO_5.out (fun _ hk => trivial))); (case aS => exact (below_size (by repeat (first | (with_reducible first | exact HB.out | apply below_alloc | apply pw_below_drewN | apply below_drew1) | exact HB.out)))); (case aL => have := LMc9.out; omega); intro v265 w12 ho hb hg hat; rw [← Ny264.out] at ho; have n0_ := Aside0.mk (hb); have n1_ := Aside0.mk (ho); clear HB; clear HO_5; clear HO263; have HB := n0_; have HO266 := n1_; clear n0_ n1_; clear ho hb hg hat))
         go_roundg k1
         case measure => have := HK1.out; omega
         case rel => exact ⟨(y264), (x6_1), (wrap64 (x15_1 + 1)), (by first | rfl | (simp; done) | (simp [bne_nil_isEmpty, beq_nil_isEmpty]; done) | (simp [*]; done)), (by first | rfl | (simp; done) | (simp [bne_nil_isEmpty, beq_nil_isEmpty]; done) | (simp [*]; done)), H', ⟨by have := HK1.out; omega⟩, ⟨by (with_reducible repeat (first | apply Kd.R_alloc | apply Kd.R_drewN | apply Kd.R_drew)); exact HO266.out⟩, ⟨by repeat (first | (with_reducible first | exact HB.out | apply below_alloc | apply pw_below_drewN | apply below_drew1) | exact HB.out)⟩⟩
        ·rw [if_neg c9] at H
         exact absurd H (by simp)
       ·rw [if_neg c8] at H
        have c8b0 : ((bt a0 x15_1) == 94) = false := beq_eq_false_iff_ne.mpr c8
        have c8b1 : ((bt a0 x15_1) != 94) = true := bne_iff_ne.mpr c8
        by_cases c14 : (bt a0 x15_1) = 10
        ·rw [if_pos c14] at H
         have c14b0 : ((bt a0 x15_1) == 10) = true := beq_iff_eq.mpr c14
         have c14b1 : ((bt a0 x15_1) != 10) = false := bne_eq_false_iff_eq.mpr c14
         clear c14
         obtain ⟨y267, hy267⟩ : ∃ y_ : List Int, y_ = (([94, 110] : List Int)) := ⟨_, rfl⟩
         replace H : (if x5_1.length + y267.length < 140737488355328 then (trystref08_Param.l0 k1 a0 (x5_1 ++ y267) x6_1 (a0.size : Int) (wrap64 (x15_1 + 1))) else (none)) = some (r1, r2) := by first | (rw [hy267]; with_reducible exact H) | (have H2_ := (Option.bind_some _ _).symm.trans H; rw [hy267]; with_reducible exact H2_) | (have H2_ := (Option.bind_some _ _).symm.trans H; with_reducible exact H2_) | with_reducible exact H | (rw [hy267]; exact H) | exact H
         have Ny267 := Aside0.mk hy267
         clear hy267
         by_cases c15 : x5_1.length + y267.length < 140737488355328
         ·rw [if_pos c15] at H
          have LMc15 := Aside0.mk c15
          clear c15
          obtain ⟨y270, hy270⟩ : ∃ y_ : List Int, y_ = (x5_1 ++ y267) := ⟨_, rfl⟩
          replace H : (trystref08_Param.l0 k1 a0 y270 x6_1 (a0.size : Int) (wrap64 (x15_1 + 1))) = some (r1, r2) := by first | (rw [hy270]; with_reducible exact H) | (have H2_ := (Option.bind_some _ _).symm.trans H; rw [hy270]; with_reducible exact H2_) | (have H2_ := (Option.bind_some _ _).symm.trans H; with_reducible exact H2_) | with_reducible exact H | (rw [hy270]; exact H) | exact H
          have Ny270 := Aside0.mk hy270
          clear hy270
          have H' := Aside0.mk H
          clear H
          have p7 : 0 ≤ (x15_1 : Int) := of_decide_eq_true (by first | (with_reducible assumption) | assumption)
          have q7 : x15_1 < (a0.size : Int) := of_decide_eq_true (by first | (with_reducible assumption) | assumption)
          have hx7 := bt_at a0 x15_1
          replace p7 := eq_true p7
          replace q7 := eq_true q7
          go_wp2_with (first | ((with_reducible refine gate_dst (N := 54) rfl ?_); refine Kd.R_lit (Kd.int .u8) _ 5 ?hg (N := 54) ?hd (xs := ([94, 110] : List Int)) (inner := [.int .u8 94, .int .u8 110]) (ok := fun _ => True) (okp := fun _ => True) ?hr ?hp (fun _ hk => hk) trivial (Below.refl _ _) (Nat.le_refl _) (by simp) ?_; (case hd => rfl); (case hg => rfl); (case hr => first | (go_simp; done) | (go_simp; rfl)); (case hp => exact (Reps.one (show Kd.M (Kd.int .u8) _ _ _ 94 [.int .u8 94] from rfl) (Reps.one (show Kd.M (Kd.int .u8) _ _ _ 110 [.int .u8 110] from rfl) (Reps.none _ _)))); intro v268 w16 ho17 hb hg_ hnew_; clear hg_ hnew_; (first | rw [← Ny267.out] at ho17 | (simp only [Int.reduceToNat] at ho17; rw [← Ny267.out] at ho17)); have n0_ := Aside0.mk (Kd.R_elder' (by (with_reducible repeat (first | apply Kd.R_alloc | apply Kd.R_drewN | apply Kd.R_drew)); exact HO_5.out) (Kd.R_base ho17) hb); have n1_ := Aside0.mk (Kd.R_lower (Kd.R_new' ho17 (Kd.R_lt (by (with_reducible repeat (first | apply Kd.R_alloc | apply Kd.R_drewN | apply Kd.R_drew)); exact HO_5.out))) (below_size (by repeat (first | (with_reducible first | exact HB.out | apply below_alloc | apply pw_below_drewN | apply below_drew1) | exact HB.out)))); have n2_ := Aside0.mk (below_step (by repeat (first | (with_reducible first | exact HB.out | apply below_alloc | apply pw_below_drewN | apply below_drew1) | exact HB.out)) hb); clear HO_5; clear HB; have HO_5 := n0_; have HO269 := n1_; have HB := n2_; clear n0_ n1_ n2_; clear hb ho17; obtain ⟨Ao19, co19, eo19⟩ := Kd.R_slice HO269.out; subst eo19) | ((with_reducible refine gate_builtin (b := .append) (xs := #[.tmp 53, .tmp 54]) rfl ?_); at_builtin; refine Kd.R_append_rows (Kd.int .u8) (w0 := w) w.heap.size rfl (.tmp 53) (.tmp 54) 46 5 (.int .u8 0) 1 rfl Tryz.underlying46 info5 rfl (by decide) (by omega) u5 x5_1 y267 _ _ _ (fun _ => True) (fun _ => False) rfl rfl ?aO ?aR (fun _ _ h => h) (fun _ h => h.elim) ?aF ?aB ?aS ?aL ?_; (case aR => repeat (first | exact (Kd.R_reads' HO269.out).2.2 | (with_reducible refine Kd.C_alloc ?_ _) | (with_reducible refine Kd.C_drewN ?_ _) | (with_reducible refine Kd.C_drew ?_))); (case aB => exact (by repeat (first | (with_reducible first | exact HB.out | apply below_alloc | apply pw_below_drewN | apply below_drew1) | exact HB.out))); (case aF => exact (fun _ _ => trivial)); (case aO => exact (by (with_reducible repeat (first | apply Kd.R_alloc | apply Kd.R_drewN | apply Kd.R_drew)); exact Kd.R_mono HO_5.out (fun _ hk => trivial))); (case aS => exact (below_size (by repeat (first | (with_reducible first | exact HB.out | apply below_alloc | apply pw_below_drewN | apply below_drew1) | exact HB.out)))); (case aL => have := LMc15.out; omega); intro v271 w18 ho hb hg hat; rw [← Ny270.out] at ho; have n0_ := Aside0.mk (hb); have n1_ := Aside0.mk (ho); clear HB; clear HO_5; clear HO269; have HB := n0_; have HO272 := n1_; clear n0_ n1_; clear ho hb hg hat))
          go_roundg k1
          case measure => have := HK1.out; omega
          case rel => exact ⟨(y270), (x6_1), (wrap64 (x15_1 + 1)), (by first | rfl | (simp; done) | (simp [bne_nil_isEmpty, beq_nil_isEmpty]; done) | (simp [*]; done)), (by first | rfl | (simp; done) | (simp [bne_nil_isEmpty, beq_nil_isEmpty]; done) | (simp [*]; done)), H', ⟨by have := HK1.out; omega⟩, ⟨by (with_reducible repeat (first | apply Kd.R_alloc | apply Kd.R_drewN | apply Kd.R_drew)); exact HO272.out⟩, ⟨by repeat (first | (with_reducible first | exact HB.out | apply below_alloc | apply pw_below_drewN | apply below_drew1) | exact HB.out)⟩⟩
         ·rw [if_neg c15] at H
          exact absurd H (by simp)
        ·rw [if_neg c14] at H
         have c14b0 : ((bt a0 x15_1) == 10) = false := beq_eq_false_iff_ne.mpr c14
         have c14b1 : ((bt a0 x15_1) != 10) = true := bne_iff_ne.mpr c14
         by_cases c20 : (bt a0 x15_1) = 34
         ·rw [if_pos c20] at H
          have c20b0 : ((bt a0 x15_1) == 34) = true := beq_iff_eq.mpr c20
          have c20b1 : ((bt a0 x15_1) != 34) = false := bne_eq_false_iff_eq.mpr c20
          clear c20
          obtain ⟨y273, hy273⟩ : ∃ y_ : List Int, y_ = (([94, 39] : List Int)) := ⟨_, rfl⟩
          replace H : (if x5_1.length + y273.length < 140737488355328 then (trystref08_Param.l0 k1 a0 (x5_1 ++ y273) x6_1 (a0.size : Int) (wrap64 (x15_1 + 1))) else (none)) = some (r1, r2) := by first | (rw [hy273]; with_reducible exact H) | (have H2_ := (Option.bind_some _ _).symm.trans H; rw [hy273]; with_reducible exact H2_) | (have H2_ := (Option.bind_some _ _).symm.trans H; with_reducible exact H2_) | with_reducible exact H | (rw [hy273]; exact H) | exact H
          have Ny273 := Aside0.mk hy273
          clear hy273
          by_cases c21 : x5_1.length + y273.length < 140737488355328
          ·rw [if_pos c21] at H
           have LMc21 := Aside0.mk c21
           clear c21
           obtain ⟨y276, hy276⟩ : ∃ y_ : List Int, y_ = (x5_1 ++ y273) := ⟨_, rfl⟩
           replace H : (trystref08_Param.l0 k1 a0 y276 x6_1 (a0.size : Int) (wrap64 (x15_1 + 1))) = some (r1, r2) := by first | (rw [hy276]; with_reducible exact H) | (have H2_ := (Option.bind_some _ _).symm.trans H; rw [hy276]; with_reducible exact H2_) | (have H2_ := (Option.bind_some _ _).symm.trans H; with_reducible exact H2_) | with_reducible exact H | (rw [hy276]; exact H) | exact H
           have Ny276 := Aside0.mk hy276
           clear hy276
           have H' := Aside0.mk H
           clear H
           have p7 : 0 ≤ (x15_1 : Int) := of_decide_eq_true (by first | (with_reducible assumption) | assumption)
           have q7 : x15_1 < (a0.size : Int) := of_decide_eq_true (by first | (with_reducible assumption) | assumption)
           have hx7 := bt_at a0 x15_1
           replace p7 := eq_true p7
           replace q7 := eq_true q7
           go_wp2_with (first | ((with_reducible refine gate_dst (N := 59) rfl ?_); refine Kd.R_lit (Kd.int .u8) _ 5 ?hg (N := 59) ?hd (xs := ([94, 39] : List Int)) (inner := [.int .u8 94, .int .u8 39]) (ok := fun _ => True) (okp := fun _ => True) ?hr ?hp (fun _ hk => hk) trivial (Below.refl _ _) (Nat.le_refl _) (by simp) ?_; (case hd => rfl); (case hg => rfl); (case hr => first | (go_simp; done) | (go_simp; rfl)); (case hp => exact (Reps.one (show Kd.M (Kd.int .u8) _ _ _ 94 [.int .u8 94] from rfl) (Reps.one (show Kd.M (Kd.int .u8) _ _ _ 39 [.int .u8 39] from rfl) (Reps.none _ _)))); intro v274 w22 ho23 hb hg_ hnew_; clear hg_ hnew_; (first | rw [← Ny273.out] at ho23 | (simp only [Int.reduceToNat] at ho23; rw [← Ny273.out] at ho23)); have n0_ := Aside0.mk (Kd.R_elder' (by (with_reducible repeat (first | apply Kd.R_alloc | apply Kd.R_drewN | apply Kd.R_drew)); exact HO_5.out) (Kd.R_base ho23) hb); have n1_ := Aside0.mk (Kd.R_lower (Kd.R_new' ho23 (Kd.R_lt (by (with_reducible repeat (first | apply Kd.R_alloc | apply Kd.R_drewN | apply Kd.R_drew)); exact HO_5.out))) (below_size (by repeat (first | (with_reducible first | exact HB.out | apply below_alloc | apply pw_below_drewN | apply below_drew1) | exact HB.out)))); have n2_ := Aside0.mk (below_step (by repeat (first | (with_reducible first | exact HB.out | apply below_alloc | apply pw_below_drewN | apply below_drew1) | exact HB.out)) hb); clear HO_5; clear HB; have HO_5 := n0_; have HO275 := n1_; have HB := n2_; clear n0_ n1_ n2_; clear hb ho23; obtain ⟨Ao25, co25, eo25⟩ := Kd.R_slice HO275.out; subst eo25) | ((with_reducible refine gate_builtin (b := .append) (xs := #[.tmp 58, .tmp 59]) rfl ?_); at_builtin; refine Kd.R_append_rows (Kd.int .u8) (w0 := w) w.heap.size rfl (.tmp 58) (.tmp 59) 46 5 (.int .u8 0) 1 rfl Tryz.underlying46 info5 rfl (by decide) (by omega) u5 x5_1 y273 _ _ _ (fun _ => True) (fun _ => False) rfl rfl ?aO ?aR (fun _ _ h => h) (fun _ h => h.elim) ?aF ?aB ?aS ?aL ?_; (case aR => repeat (first | exact (Kd.R_reads' HO275.out).2.2 | (with_reducible refine Kd.C_alloc ?_ _) | (with_reducible refine Kd.C_drewN ?_ _) | (with_reducible refine Kd.C_drew ?_))); (case aB => exact (by repeat (first | (with_reducible first | exact HB.out | apply below_alloc | apply pw_below_drewN | apply below_drew1) | exact HB.out))); (case aF => exact (fun _ _ => trivial)); (case aO => exact (by (with_reducible repeat (first | apply Kd.R_alloc | apply Kd.R_drewN | apply Kd.R_drew)); exact Kd.R_mono HO_5.out (fun _ hk => trivial))); (case aS => exact (below_size (by repeat (first | (with_reducible first | exact HB.out | apply below_alloc | apply pw_below_drewN | apply below_drew1) | exact HB.out)))); (case aL => have := LMc21.out; omega); intro v277 w24 ho hb hg hat; rw [← Ny276.out] at ho; have n0_ := Aside0.mk (hb); have n1_ := Aside0.mk (ho); clear HB; clear HO_5; clear HO275; have HB := n0_; have HO278 := n1_; clear n0_ n1_; clear ho hb hg hat))
           go_roundg k1
           case measure => have := HK1.out; omega
           case rel => exact ⟨(y276), (x6_1), (wrap64 (x15_1 + 1)), (by first | rfl | (simp; done) | (simp [bne_nil_isEmpty, beq_nil_isEmpty]; done) | (simp [*]; done)), (by first | rfl | (simp; done) | (simp [bne_nil_isEmpty, beq_nil_isEmpty]; done) | (simp [*]; done)), H', ⟨by have := HK1.out; omega⟩, ⟨by (with_reducible repeat (first | apply Kd.R_alloc | apply Kd.R_drewN | apply Kd.R_drew)); exact HO278.out⟩, ⟨by repeat (first | (with_reducible first | exact HB.out | apply below_alloc | apply pw_below_drewN | apply below_drew1) | exact HB.out)⟩⟩
          ·rw [if_neg c21] at H
           exact absurd H (by simp)
         ·rw [if_neg c20] at H
          have c20b0 : ((bt a0 x15_1) == 34) = false := beq_eq_false_iff_ne.mpr c20
          have c20b1 : ((bt a0 x15_1) != 34) = true := bne_iff_ne.mpr c20
          by_cases c26 : x6_1 = true
          ·subst c26
           rw [if_pos rfl] at H
           by_cases c28 : x5_1.length < 140737488355328
           ·rw [if_pos c28] at H
            have LMc28 := Aside0.mk c28
            clear c28
            obtain ⟨y279, hy279⟩ : ∃ y_ : List Int, y_ = (x5_1 ++ [bt a0 x15_1]) := ⟨_, rfl⟩
            replace H : (trystref08_Param.l0 k1 a0 y279 true (a0.size : Int) (wrap64 (x15_1 + 1))) = some (r1, r2) := by first | (rw [hy279]; with_reducible exact H) | (have H2_ := (Option.bind_some _ _).symm.trans H; rw [hy279]; with_reducible exact H2_) | (have H2_ := (Option.bind_some _ _).symm.trans H; with_reducible exact H2_) | with_reducible exact H | (rw [hy279]; exact H) | exact H
            have Ny279 := Aside0.mk hy279
            clear hy279
            have H' := Aside0.mk H
            clear H
            have p7 : 0 ≤ (x15_1 : Int) := of_decide_eq_true (by first | (with_reducible assumption) | assumption)
            have q7 : x15_1 < (a0.size : Int) := of_decide_eq_true (by first | (with_reducible assumption) | assumption)
            have hx7 := bt_at a0 x15_1
            replace p7 := eq_true p7
            replace q7 := eq_true q7
            have p27 : 0 ≤ (x15_1 : Int) := of_decide_eq_true (by first | (with_reducible assumption) | assumption)
            have q27 : x15_1 < (a0.size : Int) := of_decide_eq_true (by first | (with_reducible assumption) | assumption)
            have hx27 := bt_at a0 x15_1
            replace p27 := eq_true p27
            replace q27 := eq_true q27
            go_wp2_with (first | ((with_reducible refine gate_builtin (b := .append) (xs := #[.tmp 40, .tmp 44]) rfl ?_); at_builtin; refine Kd.R_append (Kd.int .u8) (w0 := w) w.heap.size rfl (.tmp 40) (.tmp 44) 46 5 (.int .u8 0) 1 rfl Tryz.underlying46 info5 rfl (by decide) (by omega) u5 x5_1 (bt a0 x15_1) [.int .u8 (bt a0 x15_1)] (fun _ => True) (fun _ => False) rfl rfl ?aP (fun _ hk => hk.elim) ?aF ?aO ?aB ?aS ?aL ?_; (case aP => exact rfl); (case aB => exact (by repeat (first | (with_reducible first | exact HB.out | apply below_alloc | apply pw_below_drewN | apply below_drew1) | exact HB.out))); (case aF => exact (fun _ _ => trivial)); (case aO => exact (by (with_reducible repeat (first | apply Kd.R_alloc | apply Kd.R_drewN | apply Kd.R_drew)); exact HO_5.out)); (case aS => exact (below_size (by repeat (first | (with_reducible first | exact HB.out | apply below_alloc | apply pw_below_drewN | apply below_drew1) | exact HB.out)))); (case aL => have := LMc28.out; omega); intro v280 w29 ho hb hg hat; rw [← Ny279.out] at ho; have n0_ := Aside0.mk (hb); have n1_ := Aside0.mk (ho); clear HB; clear HO_5; have HB := n0_; have HO281 := n1_; clear n0_ n1_; clear ho hb hg hat))
            go_roundg k1
            case measure => have := HK1.out; omega
            case rel => exact ⟨(y279), (true), (wrap64 (x15_1 + 1)), (by first | rfl | (simp; done) | (simp [bne_nil_isEmpty, beq_nil_isEmpty]; done) | (simp [*]; done)), (by first | rfl | (simp; done) | (simp [bne_nil_isEmpty, beq_nil_isEmpty]; done) | (simp [*]; done)), H', ⟨by have := HK1.out; omega⟩, ⟨by (with_reducible repeat (first | apply Kd.R_alloc | apply Kd.R_drewN | apply Kd.R_drew)); exact HO281.out⟩, ⟨by repeat (first | (with_reducible first | exact HB.out | apply below_alloc | apply pw_below_drewN | apply below_drew1) | exact HB.out)⟩⟩
           ·rw [if_neg c28] at H
            exact absurd H (by simp)
          ·replace c26 := Bool.eq_false_iff.mpr c26
           subst c26
           rw [if_neg (show ¬ (false = true) by decide)] at H
           by_cases c31 : (bt a0 x15_1) = 58
           ·rw [if_pos c31] at H
            have c31b0 : ((bt a0 x15_1) == 58) = true := beq_iff_eq.mpr c31
            have c31b1 : ((bt a0 x15_1) != 58) = false := bne_eq_false_iff_eq.mpr c31
            clear c31
            by_cases c33 : x5_1.length < 140737488355328
            ·rw [if_pos c33] at H
             have LMc33 := Aside0.mk c33
             clear c33
             obtain ⟨y282, hy282⟩ : ∃ y_ : List Int, y_ = (x5_1 ++ [bt a0 x15_1]) := ⟨_, rfl⟩
             replace H : (trystref08_Param.l0 k1 a0 y282 true (a0.size : Int) (wrap64 (x15_1 + 1))) = some (r1, r2) := by first | (rw [hy282]; with_reducible exact H) | (have H2_ := (Option.bind_some _ _).symm.trans H; rw [hy282]; with_reducible exact H2_) | (have H2_ := (Option.bind_some _ _).symm.trans H; with_reducible exact H2_) | with_reducible exact H | (rw [hy282]; exact H) | exact H
             have Ny282 := Aside0.mk hy282
             clear hy282
             have H' := Aside0.mk H
             clear H
             have p7 : 0 ≤ (x15_1 : Int) := of_decide_eq_true (by first | (with_reducible assumption) | assumption)
             have q7 : x15_1 < (a0.size : Int) := of_decide_eq_true (by first | (with_reducible assumption) | assumption)
             have hx7 := bt_at a0 x15_1
             replace p7 := eq_true p7
             replace q7 := eq_true q7
             have p30 : 0 ≤ (x15_1 : Int) := of_decide_eq_true (by first | (with_reducible assumption) | assumption)
             have q30 : x15_1 < (a0.size : Int) := of_decide_eq_true (by first | (with_reducible assumption) | assumption)
             have hx30 := bt_at a0 x15_1
             replace p30 := eq_true p30
             replace q30 := eq_true q30
             have p32 : 0 ≤ (x15_1 : Int) := of_decide_eq_true (by first | (with_reducible assumption) | assumption)
             have q32 : x15_1 < (a0.size : Int) := of_decide_eq_true (by first | (with_reducible assumption) | assumption)
             have hx32 := bt_at a0 x15_1
             replace p32 := eq_true p32
             replace q32 := eq_true q32
             go_wp2_with (first | ((with_reducible refine gate_builtin (b := .append) (xs := #[.tmp 40, .tmp 44]) rfl ?_); at_builtin; refine Kd.R_append (Kd.int .u8) (w0 := w) w.heap.size rfl (.tmp 40) (.tmp 44) 46 5 (.int .u8 0) 1 rfl Tryz.underlying46 info5 rfl (by decide) (by omega) u5 x5_1 (bt a0 x15_1) [.int .u8 (bt a0 x15_1)] (fun _ => True) (fun _ => False) rfl rfl ?aP (fun _ hk => hk.elim) ?aF ?aO ?aB ?aS ?aL ?_; (case aP => exact rfl); (case aB => exact (by repeat (first | (with_reducible first | exact HB.out | apply below_alloc | apply pw_below_drewN | apply below_drew1) | exact HB.out))); (case aF => exact (fun _ _ => trivial)); (case aO => exact (by (with_reducible repeat (first | apply Kd.R_alloc | apply Kd.R_drewN | apply Kd.R_drew)); exact HO_5.out)); (case aS => exact (below_size (by repeat (first | (with_reducible first | exact HB.out | apply below_alloc | apply pw_below_drewN | apply below_drew1) | exact HB.out)))); (case aL => have := LMc33.out; omega); intro v283 w34 ho hb hg hat; rw [← Ny282.out] at ho; have n0_ := Aside0.mk (hb); have n1_ := Aside0.mk (ho); clear HB; clear HO_5; have HB := n0_; have HO284 := n1_; clear n0_ n1_; clear ho hb hg hat))
             go_roundg k1
             case measure => have := HK1.out; omega
             case rel => exact ⟨(y282), (true), (wrap64 (x15_1 + 1)), (by first | rfl | (simp; done) | (simp [bne_nil_isEmpty, beq_nil_isEmpty]; done) | (simp [*]; done)), (by first | rfl | (simp; done) | (simp [bne_nil_isEmpty, beq_nil_isEmpty]; done) | (simp [*]; done)), H', ⟨by have := HK1.out; omega⟩, ⟨by (with_reducible repeat (first | apply Kd.R_alloc | apply Kd.R_drewN | apply Kd.R_drew)); exact HO284.out⟩, ⟨by repeat (first | (with_reducible first | exact HB.out | apply below_alloc | apply pw_below_drewN | apply below_drew1) | exact HB.out)⟩⟩
            ·rw [if_neg c33] at H
             exact absurd H (by simp)
           ·rw [if_neg c31] at H
            have c31b0 : ((bt a0 x15_1) == 58) = false := beq_eq_false_iff_ne.mpr c31
            have c31b1 : ((bt a0 x15_1) != 58) = true := bne_iff_ne.mpr c31
            by_cases c36 : (bt a0 x15_1) = 59
            ·rw [if_pos c36] at H
             have c36b0 : ((bt a0 x15_1) == 59) = true := beq_iff_eq.mpr c36
             have c36b1 : ((bt a0 x15_1) != 59) = false := bne_eq_false_iff_eq.mpr c36
             clear c36
             by_cases c38 : x5_1.length < 140737488355328
             ·rw [if_pos c38] at H
              have LMc38 := Aside0.mk c38
              clear c38
              obtain ⟨y285, hy285⟩ : ∃ y_ : List Int, y_ = (x5_1 ++ [bt a0 x15_1]) := ⟨_, rfl⟩
              replace H : (trystref08_Param.l0 k1 a0 y285 true (a0.size : Int) (wrap64 (x15_1 + 1))) = some (r1, r2) := by first | (rw [hy285]; with_reducible exact H) | (have H2_ := (Option.bind_some _ _).symm.trans H; rw [hy285]; with_reducible exact H2_) | (have H2_ := (Option.bind_some _ _).symm.trans H; with_reducible exact H2_) | with_reducible exact H | (rw [hy285]; exact H) | exact H
              have Ny285 := Aside0.mk hy285
              clear hy285
              have H' := Aside0.mk H
              clear H
              have p7 : 0 ≤ (x15_1 : Int) := of_decide_eq_true (by first | (with_reducible assumption) | assumption)
              have q7 : x15_1 < (a0.size : Int) := of_decide_eq_true (by first | (with_reducible assumption) | assumption)
              have hx7 := bt_at a0 x15_1
              replace p7 := eq_true p7
              replace q7 := eq_true q7
              have p30 : 0 ≤ (x15_1 : Int) := of_decide_eq_true (by first | (with_reducible assumption) | assumption)
              have q30 : x15_1 < (a0.size : Int) := of_decide_eq_true (by first | (with_reducible assumption) | assumption)
              have hx30 := bt_at a0 x15_1
              replace p30 := eq_true p30
              replace q30 := eq_true q30
              have p35 : 0 ≤ (x15_1 : Int) := of_decide_eq_true (by first | (with_reducible assumption) | assumption)
              have q35 : x15_1 < (a0.size : Int) := of_decide_eq_true (by first | (with_reducible assumption) | assumption)
              have hx35 := bt_at a0 x15_1
              replace p35 := eq_true p35
              replace q35 := eq_true q35
              have p37 : 0 ≤ (x15_1 : Int) := of_decide_eq_true (by first | (with_reducible assumption) | assumption)
              have q37 : x15_1 < (a0.size : Int) := of_decide_eq_true (by first | (with_reducible assumption) | assumption)
              have hx37 := bt_at a0 x15_1
              replace p37 := eq_true p37
              replace q37 := eq_true q37
              go_wp2_with (first | ((with_reducible refine gate_builtin (b := .append) (xs := #[.tmp 40, .tmp 44]) rfl ?_); at_builtin; refine Kd.R_append (Kd.int .u8) (w0 := w) w.heap.size rfl (.tmp 40) (.tmp 44) 46 5 (.int .u8 0) 1 rfl Tryz.underlying46 info5 rfl (by decide) (by omega) u5 x5_1 (bt a0 x15_1) [.int .u8 (bt a0 x15_1)] (fun _ => True) (fun _ => False) rfl rfl ?aP (fun _ hk => hk.elim) ?aF ?aO ?aB ?aS ?aL ?_; (case aP => exact rfl); (case aB => exact (by repeat (first | (with_reducible first | exact HB.out | apply below_alloc | apply pw_below_drewN | apply below_drew1) | exact HB.out))); (case aF => exact (fun _ _ => trivial)); (case aO => exact (by (with_reducible repeat (first | apply Kd.R_alloc | apply Kd.R_drewN | apply Kd.R_drew)); exact HO_5.out)); (case aS => exact (below_size (by repeat (first | (with_reducible first | exact HB.out | apply below_alloc | apply pw_below_drewN | apply below_drew1) | exact HB.out)))); (case aL => have := LMc38.out; omega); intro v286 w39 ho hb hg hat; rw [← Ny285.out] at ho; have n0_ := Aside0.mk (hb); have n1_ := Aside0.mk (ho); clear HB; clear HO_5; have HB := n0_; have HO287 := n1_; clear n0_ n1_; clear ho hb hg hat))
              go_roundg k1
              case measure => have := HK1.out; omega
              case rel => exact ⟨(y285), (true), (wrap64 (x15_1 + 1)), (by first | rfl | (simp; done) | (simp [bne_nil_isEmpty, beq_nil_isEmpty]; done) | (simp [*]; done)), (by first | rfl | (simp; done) | (simp [bne_nil_isEmpty, beq_nil_isEmpty]; done) | (simp [*]; done)), H', ⟨by have := HK1.out; omega⟩, ⟨by (with_reducible repeat (first | apply Kd.R_alloc | apply Kd.R_drewN | apply Kd.R_drew)); exact HO287.out⟩, ⟨by repeat (first | (with_reducible first | exact HB.out | apply below_alloc | apply pw_below_drewN | apply below_drew1) | exact HB.out)⟩⟩
             ·rw [if_neg c38] at H
              exact absurd H (by simp)
            ·rw [if_neg c36] at H
             have c36b0 : ((bt a0 x15_1) == 59) = false := beq_eq_false_iff_ne.mpr c36
             have c36b1 : ((bt a0 x15_1) != 59) = true := bne_iff_ne.mpr c36
             by_cases c42 : x5_1.length < 140737488355328
             ·rw [if_pos c42] at H
              have LMc42 := Aside0.mk c42
              clear c42
              obtain ⟨y288, hy288⟩ : ∃ y_ : List Int, y_ = (x5_1 ++ [bt a0 x15_1]) := ⟨_, rfl⟩
              replace H : (trystref08_Param.l0 k1 a0 y288 ((bt a0 x15_1) == 44) (a0.size : Int) (wrap64 (x15_1 + 1))) = some (r1, r2) := by first | (rw [hy288]; with_reducible exact H) | (have H2_ := (Option.bind_some _ _).symm.trans H; rw [hy288]; with_reducible exact H2_) | (have H2_ := (Option.bind_some _ _).symm.trans H; with_reducible exact H2_) | with_reducible exact H | (rw [hy288]; exact H) | exact H
              have Ny288 := Aside0.mk hy288
              clear hy288
              have H' := Aside0.mk H
              clear H
              have p7 : 0 ≤ (x15_1 : Int) := of_decide_eq_true (by first | (with_reducible assumption) | assumption)
              have q7 : x15_1 < (a0.size : Int) := of_decide_eq_true (by first | (with_reducible assumption) | assumption)
              have hx7 := bt_at a0 x15_1
              replace p7 := eq_true p7
              replace q7 := eq_true q7
              have p30 : 0 ≤ (x15_1 : Int) := of_decide_eq_true (by first | (with_reducible assumption) | assumption)
              have q30 : x15_1 < (a0.size : Int) := of_decide_eq_true (by first | (with_reducible assumption) | assumption)
              have hx30 := bt_at a0 x15_1
              replace p30 := eq_true p30
              replace q30 := eq_true q30
              have p35 : 0 ≤ (x15_1 : Int) := of_decide_eq_true (by first | (with_reducible assumption) | assumption)
              have q35 : x15_1 < (a0.size : Int) := of_decide_eq_true (by first | (with_reducible assumption) | assumption)
              have hx35 := bt_at a0 x15_1
              replace p35 := eq_true p35
              replace q35 := eq_true q35
              have p40 : 0 ≤ (x15_1 : Int) := of_decide_eq_true (by first | (with_reducible assumption) | assumption)
              have q40 : x15_1 < (a0.size : Int) := of_decide_eq_true (by first | (with_reducible assumption) | assumption)
              have hx40 := bt_at a0 x15_1
              replace p40 := eq_true p40
              replace q40 := eq_true q40
              have p41 : 0 ≤ (x15_1 : Int) := of_decide_eq_true (by first | (with_reducible assumption) | assumption)
              have q41 : x15_1 < (a0.size : Int) := of_decide_eq_true (by first | (with_reducible assumption) | assumption)
              have hx41 := bt_at a0 x15_1
              replace p41 := eq_true p41
              replace q41 := eq_true q41
              go_wp2_with (first | ((with_reducible refine gate_builtin (b := .append) (xs := #[.tmp 40, .tmp 44]) rfl ?_); at_builtin; refine Kd.R_append (Kd.int .u8) (w0 := w) w.heap.size rfl (.tmp 40) (.tmp 44) 46 5 (.int .u8 0) 1 rfl Tryz.underlying46 info5 rfl (by decide) (by omega) u5 x5_1 (bt a0 x15_1) [.int .u8 (bt a0 x15_1)] (fun _ => True) (fun _ => False) rfl rfl ?aP (fun _ hk => hk.elim) ?aF ?aO ?aB ?aS ?aL ?_; (case aP => exact rfl); (case aB => exact (by repeat (first | (with_reducible first | exact HB.out | apply below_alloc | apply pw_below_drewN | apply below_drew1) | exact HB.out))); (case aF => exact (fun _ _ => trivial)); (case aO => exact (by (with_reducible repeat (first | apply Kd.R_alloc | apply Kd.R_drewN | apply Kd.R_drew)); exact HO_5.out)); (case aS => exact (below_size (by repeat (first | (with_reducible first | exact HB.out | apply below_alloc | apply pw_below_drewN | apply below_drew1) | exact HB.out)))); (case aL => have := LMc42.out; omega); intro v289 w43 ho hb hg hat; rw [← Ny288.out] at ho; have n0_ := Aside0.mk (hb); have n1_ := Aside0.mk (ho); clear HB; clear HO_5; have HB := n0_; have HO290 := n1_; clear n0_ n1_; clear ho hb hg hat))
              go_roundg k1
              case measure => have := HK1.out; omega
              case rel => exact ⟨(y288), (((bt a0 x15_1) == 44)), (wrap64 (x15_1 + 1)), (by first | rfl | (simp; done) | (simp [bne_nil_isEmpty, beq_nil_isEmpty]; done) | (simp [*]; done)), (by first | rfl | (simp; done) | (simp [bne_nil_isEmpty, beq_nil_isEmpty]; done) | (simp [*]; done)), H', ⟨by have := HK1.out; omega⟩, ⟨by (with_reducible repeat (first | apply Kd.R_alloc | apply Kd.R_drewN | apply Kd.R_drew)); exact HO290.out⟩, ⟨by repeat (first | (with_reducible first | exact HB.out | apply below_alloc | apply pw_below_drewN | apply below_drew1) | exact HB.out)⟩⟩
             ·rw [if_neg c42] at H
              exact absurd H (by simp)
      ·rw [if_neg c6] at H
       exact absurd H (by simp)
     ·rw [if_neg c5] at H
      exact absurd H (by simp)
    ·rw [if_neg c4] at H
     have c4b0 : decide (x15_1 < (a0.size : Int)) = false := decide_eq_false c4
     clear c4
     by_cases c44 : x6_1 = true
     ·subst c44
      rw [if_pos rfl] at H
      by_cases c45 : 1 + (strOfNums x5_1).size ≤ 9223372036854775807
      ·rw [if_pos c45] at H
       have c45b0 := eq_true c45
       have c45b1 : decide (1 + (strOfNums x5_1).size ≤ 9223372036854775807) = true := decide_eq_true c45
       try have c45b2 : (9223372036854775807 < 1 + (strOfNums x5_1).size) = False := eq_false (Nat.not_lt.2 c45)
       by_cases c46 : ((⟨#[34]⟩ : ByteArray) ++ (strOfNums x5_1)).size + 1 ≤ 9223372036854775807
       ·rw [if_pos c46] at H
        have c46b0 := eq_true c46
        have c46b1 : decide (((⟨#[34]⟩ : ByteArray) ++ (strOfNums x5_1)).size + 1 ≤ 9223372036854775807) = true := decide_eq_true c46
        try have c46b2 : (9223372036854775807 < ((⟨#[34]⟩ : ByteArray) ++ (strOfNums x5_1)).size + 1) = False := eq_false (Nat.not_lt.2 c46)
        have c46b3 : (9223372036854775807 < 1 + (strOfNums x5_1).size + 1) = False := by
         have h_ : ((⟨#[34]⟩ : ByteArray) ++ (strOfNums x5_1)).size = 1 + (strOfNums x5_1).size := by rw [ByteArray.size_append]; rfl
         rw [← h_]; exact eq_false (Nat.not_lt.2 c46)
        simp only [Option.some.injEq, Prod.mk.injEq] at H
        obtain ⟨rfl, rfl⟩ := H
        have hcv47 := own_string (P := Tryz.prog) Tryz.underlying46 Tryz.underlying5 Tryz.underlying9 (Kd.own_of_R HO_5.out)
        go_wp2
        go_ret2
        exact ⟨by first | rfl | (simp [errW_none, errW_some] <;> rfl) | (simp [*, errW_none, errW_some] <;> rfl), by repeat (first | (with_reducible first | exact HB.out | apply below_alloc | apply pw_below_drewN | apply below_drew1) | exact HB.out)⟩
       ·rw [if_neg c46] at H
        exact absurd H (by simp)
      ·rw [if_neg c45] at H
       exact absurd H (by simp)
     ·replace c44 := Bool.eq_false_iff.mpr c44
      subst c44
      rw [if_neg (show ¬ (false = true) by decide)] at H
      simp only [Option.some.injEq, Prod.mk.injEq] at H
      obtain ⟨rfl, rfl⟩ := H
      have hcv48 := own_string (P := Tryz.prog) Tryz.underlying46 Tryz.underlying5 Tryz.underlying9 (Kd.own_of_R HO_5.out)
      go_wp2
      go_ret2
      exact ⟨by first | rfl | (simp [errW_none, errW_some] <;> rfl) | (simp [*, errW_none, errW_some] <;> rfl), by repeat (first | (with_reducible first | exact HB.out | apply below_alloc | apply pw_below_drewN | apply below_drew1) | exact HB.out)⟩
 ·rw [if_neg c3] at H
  have c3b0 : (t260 == 0) = false := beq_eq_false_iff_ne.mpr c3
  have c3b1 : (t260 != 0) = true := bne_iff_ne.mpr c3
  simp only [Option.some.injEq, Prod.mk.injEq] at H
  obtain ⟨rfl, rfl⟩ := H
  go_enter Tryz.func24, Tryz.ntmps24
  go_wp2_with (first | ((with_reducible refine gate_callee (f := 28) rfl ?_); refine goesL_ (some 9) rfl rfl Tryz.func28 (by kernel_rfl) rfl #[.string a0, .bool true] rfl (by (try simp only [List.map_toArray, List.map_cons, List.map_nil]); first | done | rfl | (simp only [List.length_drop, List.length_take]; rfl)) ?_; (with_reducible refine (trystref08_Clean.calls k a0 true t260 _ (by first | (with_reducible exact hG) | exact GG.below hG (by repeat (first | (with_reducible first | exact HB.out | apply below_alloc | apply pw_below_drewN | apply below_drew1) | exact HB.out))) A2.out).mono ?_); rintro e w' ⟨rfl, ⟨nd, rfl⟩⟩; refine ⟨_, rfl, ?_⟩))
  go_ret2
  exact ⟨by first | rfl | (simp [errW_none, errW_some] <;> rfl) | (simp [*, errW_none, errW_some] <;> rfl), by repeat (first | (with_reducible first | exact HB.out | apply below_alloc | apply pw_below_drewN | apply below_drew1) | exact HB.out)⟩
mutual
def trystref08_Print.l0 : Nat → ByteArray → Int → Int → ByteArray → List (S44) → ByteArray → Option (ByteArray × Int)
 | 0, _, _, _, _, _, _ => none
 | k + 1, x4, x16, x17, x292000, x292001, x292002 => if x17 < x16 then (if x4.size + 1 ≤ 9223372036854775807 then (if 0 ≤ x17 then (if x17 < (x292001.length : Int) then (if (x4 ++ (⟨#[59]⟩ : ByteArray)).size + ((rd_T44 x292001 x17).f0).size ≤ 9223372036854775807 then (trystref08_Print.l1 k ((x4 ++ (⟨#[59]⟩ : ByteArray)) ++ ((rd_T44 x292001 x17).f0)) x17 x16 x17 (((rd_T44 x292001 x17).f1).length : Int) 0 x292000 x292001 x292002) else (none)) else (none)) else (none)) else (none)) else (if x4.size + 1 ≤ 9223372036854775807 then (if (x4 ++ (⟨#[58]⟩ : ByteArray)).size + x292002.size ≤ 9223372036854775807 then (if (((x4 ++ (⟨#[58]⟩ : ByteArray)) ++ x292002).size : Int) > 2000 then (some ((⟨#[]⟩ : ByteArray), 4)) else (some ((x4 ++ (⟨#[58]⟩ : ByteArray)) ++ x292002, 0))) else (none)) else (none))
def trystref08_Print.l1 : Nat → ByteArray → Int → Int → Int → Int → Int → ByteArray → List (S44) → ByteArray → Option (ByteArray × Int)
 | 0, _, _, _, _, _, _, _, _, _ => none
 | k + 1, x4, x5, x16, x17, x35, x36, x292000, x292001, x292002 => if x36 < x35 then (if 0 ≤ x5 then (if x5 < (x292001.length : Int) then (if 0 ≤ x36 then (if x36 < (((rd_T44 x292001 x5).f1).length : Int) then ((trystref08_Param.f k (rdOf ByteArray.empty ((rd_T44 x292001 x5).f1) x36)).bind fun bt297 => (if x36 = 0 then (if x4.size + 1 ≤ 9223372036854775807 then (if (x4 ++ (⟨#[61]⟩ : ByteArray)).size + bt297.1.size ≤ 9223372036854775807 then (trystref08_Print.l1 k ((x4 ++ (⟨#[61]⟩ : ByteArray)) ++ bt297.1) x5 x16 x17 x35 (wrap64 (x36 + 1)) x292000 x292001 x292002) else (none)) else (none)) else (if x4.size + 1 ≤ 9223372036854775807 then (if (x4 ++ (⟨#[44]⟩ : ByteArray)).size + bt297.1.size ≤ 9223372036854775807 then (trystref08_Print.l1 k ((x4 ++ (⟨#[44]⟩ : ByteArray)) ++ bt297.1) x5 x16 x17 x35 (wrap64 (x36 + 1)) x292000 x292001 x292002) else (none)) else (none)))) else (none)) else (none)) else (none)) else (none)) else (trystref08_Print.l0 k x4 x16 (wrap64 (x17 + 1)) x292000 x292001 x292002)
end
def trystref08_Print.f (k : Nat) (a0_0 : ByteArray) (l0_1 : List (S44)) (a0_2 : ByteArray) : Option (ByteArray × Int) := (trystref08_Formed.f k a0_0 l0_1 a0_2).bind fun t292 => (if t292 = true then (trystref08_Print.l0 k a0_0 (l0_1.length : Int) 0 a0_0 l0_1 a0_2) else (some ((⟨#[]⟩ : ByteArray), 1)))
set_option maxHeartbeats 8000000 in
set_option maxRecDepth 100000 in
theorem trystref08_Print.calls (k : Nat) (a0_0 : ByteArray) (A0_1 : Option Addr) (c0_1 : Nat) (l0_1 : List (S44)) (a0_2 : ByteArray) (r1 : ByteArray) (r2 : Int) (w : World) (hG : GG w) (hr0_1 : Kd.C k44 w A0_1 l0_1.length l0_1) (hc0_1 : l0_1.length ≤ c0_1) (h : trystref08_Print.f k a0_0 l0_1 a0_2 = some (r1, r2)) :
  Calls Tryz.prog 10 #[.agg #[.string a0_0, .slice A0_1 l0_1.length c0_1, .string a0_2]] w fun e w' => e = .returned (.tuple #[.string r1, .int .i64 r2]) ∧ Below w.heap.size w w' := by
 have hu24 := Tryz.underlying24
 have HR0_1 := Aside0.mk hr0_1
 have HC0_1 := Aside0.mk hc0_1
 clear hr0_1 hc0_1
 have HB := Aside0.mk (Below.refl w.heap.size w)
 have H : ((trystref08_Formed.f k a0_0 l0_1 a0_2).bind fun t292 => (if t292 = true then (trystref08_Print.l0 k a0_0 (l0_1.length : Int) 0 a0_0 l0_1 a0_2) else (some ((⟨#[]⟩ : ByteArray), 1)))) = some (r1, r2) := h
 clear h
 replace H := Option.bind_eq_some_iff.mp H
 obtain ⟨t292, A20, H⟩ := H
 replace H : (if t292 = true then (trystref08_Print.l0 k a0_0 (l0_1.length : Int) 0 a0_0 l0_1 a0_2) else (some ((⟨#[]⟩ : ByteArray), 1))) = some (r1, r2) := H
 have A2 := Aside0.mk A20
 clear A20
 by_cases c3 : t292 = true
 ·subst c3
  rw [if_pos rfl] at H
  have H' := Aside0.mk H
  clear H
  go_enter Tryz.func10, Tryz.ntmps10
  go_wp2_with (first | ((with_reducible refine gate_dst (N := 1) rfl ?_); refine box_event ?hg (N := 1) ?hd (cs := #[.string a0_0, .slice A0_1 l0_1.length c0_1, .string a0_2]) (t := 24) ?hr ?_; (case hd => rfl); (case hg => rfl); (case hr => first | (go_simp; done) | (go_simp; rfl)); intro gb291 hg w4 hbox hb; have n0_ := Aside0.mk (below_step (by repeat (first | (with_reducible first | exact HB.out | apply below_alloc | apply pw_below_drewN | apply below_drew1) | exact HB.out)) hb); have n1_ := Aside0.mk (hbox); have n2_ := Aside0.mk ((by rw [hg]; exact (below_size (by repeat (first | (with_reducible first | exact HB.out | apply below_alloc | apply pw_below_drewN | apply below_drew1) | exact HB.out))) : w.heap.size ≤ gb291)); have n3_ := Aside0.mk ((by rw [hg]; exact (below_size (by repeat (first | (with_reducible first | exact HB.out | apply below_alloc | apply pw_below_drewN | apply below_drew1) | exact HB.out))) : w.heap.size ≤ gb291)); clear HB; have HB := n0_; have BK291 := n1_; have GW291 := n2_; have GE291 := n3_; clear n0_ n1_ n2_ n3_; clear hb hbox hg; have hcz5_0 : w4.cell? ⟨gb291, 0, none⟩ = some (.string a0_0) := (blk_cell BK291.out 0).trans rfl; have hcz5_1 : w4.cell? ⟨gb291, 1, none⟩ = some (.slice A0_1 l0_1.length c0_1) := (blk_cell BK291.out 1).trans rfl; have hcz5_2 : w4.cell? ⟨gb291, 2, none⟩ = some (.string a0_2) := (blk_cell BK291.out 2).trans rfl; have hfz5_0 := blk_frozen BK291.out 0; have hfz5_1 := blk_frozen BK291.out 1; have hfz5_2 := blk_frozen BK291.out 2) | ((with_reducible refine gate_callee (f := 12) rfl ?_); refine goesL_ (some 10) rfl rfl Tryz.func12 (by kernel_rfl) rfl #[.agg #[.string a0_0, .slice A0_1 l0_1.length c0_1, .string a0_2]] rfl (by (try simp only [List.map_toArray, List.map_cons, List.map_nil]); first | done | rfl | (simp only [List.length_drop, List.length_take]; rfl)) ?_; (with_reducible refine (trystref08_Formed.calls k a0_0 _ _ l0_1 a0_2 true _ (by first | (with_reducible exact hG) | exact GG.below hG (by repeat (first | (with_reducible first | exact HB.out | apply below_alloc | apply pw_below_drewN | apply below_drew1 | refine below_set ?_ GE291.out) | exact HB.out))) ?side1 ?side2 A2.out).mono ?_); (case side1 => repeat (first | exact (Kd.C_below HR0_1.out HB.out) | (with_reducible refine Kd.C_alloc ?_ _) | (with_reducible refine Kd.C_drewN ?_ _) | (with_reducible refine Kd.C_drew ?_))); (case side2 => exact HC0_1.out); rintro e w6 ⟨rfl, hb⟩; refine ⟨_, rfl, ?_⟩; have n0_ := Aside0.mk (blk_below (g := gb291) (o := .cells #[.string a0_0, .slice A0_1 l0_1.length c0_1, .string a0_2] 24 (0, 0)) (by (with_reducible repeat (first | refine blk_drewN ?_ _ | refine blk_drew ?_ | refine blk_alloc ?_ _)); exact BK291.out) hb); have n1_ := Aside0.mk (below_step (by repeat (first | (with_reducible first | exact HB.out | apply below_alloc | apply pw_below_drewN | apply below_drew1 | refine below_set ?_ GE291.out) | exact HB.out)) hb); clear BK291; clear HB; have BK291 := n0_; have HB := n1_; clear n0_ n1_; (try clear hb); (try clear hb2); (try clear hk); (try clear hi); have hcz7_0 : w6.cell? ⟨gb291, 0, none⟩ = some (.string a0_0) := (blk_cell BK291.out 0).trans rfl; have hcz7_1 : w6.cell? ⟨gb291, 1, none⟩ = some (.slice A0_1 l0_1.length c0_1) := (blk_cell BK291.out 1).trans rfl; have hcz7_2 : w6.cell? ⟨gb291, 2, none⟩ = some (.string a0_2) := (blk_cell BK291.out 2).trans rfl; have hfz7_0 := blk_frozen BK291.out 0; have hfz7_1 := blk_frozen BK291.out 1; have hfz7_2 := blk_frozen BK291.out 2))
  go_loopg [4, 17] k (fun kq v4 v17 w' => ∃ (x4_1 : ByteArray) (x17_1 : Int), v4 = .string x4_1 ∧ v17 = .int .i64 x17_1 ∧ Aside0 (trystref08_Print.l0 kq x4_1 (l0_1.length : Int) x17_1 a0_0 l0_1 a0_2 = some (r1, r2)) ∧ Aside0 (kq ≤ k) ∧ Aside0 (w'.heap[gb291]? = some (.cells #[.string a0_0, (.slice A0_1 l0_1.length c0_1), .string a0_2] 24 (0, 0))) ∧ Aside0 (Below w.heap.size w w'))
  case atStart => exact ⟨(a0_0), (0), (by first | rfl | (simp; done) | (simp [bne_nil_isEmpty, beq_nil_isEmpty]; done) | (simp [*]; done)), (by first | rfl | (simp; done) | (simp [bne_nil_isEmpty, beq_nil_isEmpty]; done) | (simp [*]; done)), H', ⟨Nat.le_refl _⟩, ⟨by (with_reducible repeat (first | refine blk_drewN ?_ _ | refine blk_drew ?_ | refine blk_alloc ?_ _)); exact BK291.out⟩, ⟨by repeat (first | (with_reducible first | exact HB.out | apply below_alloc | apply pw_below_drewN | apply below_drew1 | refine below_set ?_ GE291.out) | exact HB.out)⟩⟩
  case round =>
   clear H'
   try clear c1
   try clear p2
   try clear c3
   try clear hcz5_0
   try clear hcz5_1
   try clear hcz5_2
   try clear hcz7_0
   try clear hcz7_1
   try clear hcz7_2
   try clear hfz5_0
   try clear hfz5_1
   try clear hfz5_2
   try clear hfz7_0
   try clear hfz7_1
   try clear hfz7_2
   obtain ⟨x4_1, x17_1, rfl, rfl, HA, HK1, BK291, HB⟩ := hrel
   cases gk with
   | zero => exact absurd HA.out (by simp [trystref08_Print.l0])
   | succ k1 =>
    have H := HA.out
    clear HA
    simp only [trystref08_Print.l0] at H
    by_cases c8 : x17_1 < (l0_1.length : Int)
    ·rw [if_pos c8] at H
     have c8b0 : decide (x17_1 < (l0_1.length : Int)) = true := decide_eq_true c8
     clear c8
     by_cases c9 : x4_1.size + 1 ≤ 9223372036854775807
     ·rw [if_pos c9] at H
      have c9b0 := eq_true c9
      have c9b1 : decide (x4_1.size + 1 ≤ 9223372036854775807) = true := decide_eq_true c9
      try have c9b2 : (9223372036854775807 < x4_1.size + 1) = False := eq_false (Nat.not_lt.2 c9)
      by_cases c10 : 0 ≤ x17_1
      ·rw [if_pos c10] at H
       have c10b0 : decide (0 ≤ x17_1) = true := decide_eq_true c10
       clear c10
       by_cases c11 : x17_1 < (l0_1.length : Int)
       ·rw [if_pos c11] at H
        have c11b0 : decide (x17_1 < (l0_1.length : Int)) = true := decide_eq_true c11
        clear c11
        by_cases c12 : (x4_1 ++ (⟨#[59]⟩ : ByteArray)).size + ((rd_T44 l0_1 x17_1).f0).size ≤ 9223372036854775807
        ·rw [if_pos c12] at H
         have c12b0 := eq_true c12
         have c12b1 : decide ((x4_1 ++ (⟨#[59]⟩ : ByteArray)).size + ((rd_T44 l0_1 x17_1).f0).size ≤ 9223372036854775807) = true := decide_eq_true c12
         try have c12b2 : (9223372036854775807 < (x4_1 ++ (⟨#[59]⟩ : ByteArray)).size + ((rd_T44 l0_1 x17_1).f0).size) = False := eq_false (Nat.not_lt.2 c12)
         have H' := Aside0.mk H
         clear H
         have hcz13_0 : wr.cell? ⟨gb291, 0, none⟩ = some (.string a0_0) := (blk_cell BK291.out 0).trans rfl
         have hcz13_1 : wr.cell? ⟨gb291, 1, none⟩ = some (.slice A0_1 l0_1.length c0_1) := (blk_cell BK291.out 1).trans rfl
         have hcz13_2 : wr.cell? ⟨gb291, 2, none⟩ = some (.string a0_2) := (blk_cell BK291.out 2).trans rfl
         have hfz13_0 := blk_frozen BK291.out 0
         have hfz13_1 := blk_frozen BK291.out 1
         have hfz13_2 := blk_frozen BK291.out 2
         have p293 : 0 ≤ (x17_1 : Int) := of_decide_eq_true (by first | (with_reducible assumption) | assumption)
         have q293 : x17_1 < (l0_1.length : Int) := of_decide_eq_true (by first | (with_reducible assumption) | assumption)
         obtain ⟨ad293, A293_1, c293_1, e293, hx293_0, hx293_1, hl293_1, hi293_1⟩ := at_T44 HR0_1.out x17_1 p293 q293
         cases e293
         replace hx293_0 := (HB.out.cell (World.block_lt_of_cell? w _ hx293_0)).trans hx293_0
         replace hx293_1 := (HB.out.cell (World.block_lt_of_cell? w _ hx293_1)).trans hx293_1
         have HR293_1 := Aside0.mk hi293_1
         have HC293_1 := Aside0.mk hl293_1
         clear hi293_1 hl293_1
         replace p293 := eq_true p293
         replace q293 := eq_true q293
         have p294 : 0 ≤ (x17_1 : Int) := of_decide_eq_true (by first | (with_reducible assumption) | assumption)
         have q294 : x17_1 < (l0_1.length : Int) := of_decide_eq_true (by first | (with_reducible assumption) | assumption)
         obtain ⟨ad294, A294_1, c294_1, e294, hx294_0, hx294_1, hl294_1, hi294_1⟩ := at_T44 HR0_1.out x17_1 p294 q294
         obtain rfl : ad293 = ad294 := (by injection e294)
         replace hx294_0 := (HB.out.cell (World.block_lt_of_cell? w _ hx294_0)).trans hx294_0
         replace hx294_1 := (HB.out.cell (World.block_lt_of_cell? w _ hx294_1)).trans hx294_1
         have HR294_1 := Aside0.mk hi294_1
         have HC294_1 := Aside0.mk hl294_1
         clear hi294_1 hl294_1
         replace p294 := eq_true p294
         replace q294 := eq_true q294
         have ea_ := Option.some.inj (hx293_1.symm.trans hx294_1)
         injection ea_ with ea_ en_ ec_
         subst ea_
         subst ec_
         clear en_
         go_wp2
         go_loopg [4, 36] k1 (fun kq v4 v36 w' => ∃ (x4_2 : ByteArray) (x36_2 : Int), v4 = .string x4_2 ∧ v36 = .int .i64 x36_2 ∧ Aside0 (trystref08_Print.l1 kq x4_2 x17_1 (l0_1.length : Int) x17_1 (((rd_T44 l0_1 x17_1).f1).length : Int) x36_2 a0_0 l0_1 a0_2 = some (r1, r2)) ∧ Aside0 (kq ≤ k1) ∧ Aside0 (w'.heap[gb291]? = some (.cells #[.string a0_0, (.slice (some ad293) l0_1.length c0_1), .string a0_2] 24 (0, 0))) ∧ Aside0 (Below w.heap.size w w'))
         case atStart => exact ⟨((x4_1 ++ (⟨#[59]⟩ : ByteArray)) ++ ((rd_T44 l0_1 x17_1).f0)), (0), (by first | rfl | (simp; done) | (simp [bne_nil_isEmpty, beq_nil_isEmpty]; done) | (simp [*]; done)), (by first | rfl | (simp; done) | (simp [bne_nil_isEmpty, beq_nil_isEmpty]; done) | (simp [*]; done)), H', ⟨Nat.le_refl _⟩, ⟨by (with_reducible repeat (first | refine blk_drewN ?_ _ | refine blk_drew ?_ | refine blk_alloc ?_ _)); exact BK291.out⟩, ⟨by repeat (first | (with_reducible first | exact HB.out | apply below_alloc | apply pw_below_drewN | apply below_drew1 | refine below_set ?_ GE291.out) | exact HB.out)⟩⟩
         case round =>
          clear H'
          try clear c1
          try clear c2
          try clear p2
          try clear q2
          try clear hx2
          try clear c3
          try clear c8
          try clear c8b0
          try clear c9
          try clear c9b0
          try clear c9b1
          try clear c9b2
          try clear c10
          try clear c10b0
          try clear c11
          try clear c11b0
          try clear c12
          try clear c12b0
          try clear c12b1
          try clear c12b2
          try clear hcz13_0
          try clear hcz13_1
          try clear hcz13_2
          try clear hcz5_0
          try clear hcz5_1
          try clear hcz5_2
          try clear hcz7_0
          try clear hcz7_1
          try clear hcz7_2
          try clear hfz13_0
          try clear hfz13_1
          try clear hfz13_2
          try clear hfz5_0
          try clear hfz5_1
          try clear hfz5_2
          try clear hfz7_0
          try clear hfz7_1
          try clear hfz7_2
          try clear hx293_0
          try clear hx293_1
          try clear hx294_0
          try clear hx294_1
          try clear p2
          try clear p293
          try clear p294
          try clear q293
          try clear q294
          obtain ⟨x4_2, x36_2, rfl, rfl, HA, HK2, BK291, HB⟩ := hrel
          cases gk with
          | zero => exact absurd HA.out (by simp [trystref08_Print.l1])
          | succ k2 =>
           have H := HA.out
           clear HA
           simp only [trystref08_Print.l1] at H
           by_cases c14 : x36_2 < (((rd_T44 l0_1 x17_1).f1).length : Int)
           ·rw [if_pos c14] at H
            have c14b0 : decide (x36_2 < (((rd_T44 l0_1 x17_1).f1).length : Int)) = true := decide_eq_true c14
            clear c14
            by_cases c15 : 0 ≤ x17_1
            ·rw [if_pos c15] at H
             have c15b0 : decide (0 ≤ x17_1) = true := decide_eq_true c15
             clear c15
             by_cases c16 : x17_1 < (l0_1.length : Int)
             ·rw [if_pos c16] at H
              have c16b0 : decide (x17_1 < (l0_1.length : Int)) = true := decide_eq_true c16
              clear c16
              by_cases c17 : 0 ≤ x36_2
              ·rw [if_pos c17] at H
               have c17b0 : decide (0 ≤ x36_2) = true := decide_eq_true c17
               clear c17
               by_cases c18 : x36_2 < (((rd_T44 l0_1 x17_1).f1).length : Int)
               ·rw [if_pos c18] at H
                have c18b0 : decide (x36_2 < (((rd_T44 l0_1 x17_1).f1).length : Int)) = true := decide_eq_true c18
                clear c18
                replace H := Option.bind_eq_some_iff.mp H
                obtain ⟨⟨t297, t298⟩, A190, H⟩ := H
                replace H : (if x36_2 = 0 then (if x4_2.size + 1 ≤ 9223372036854775807 then (if (x4_2 ++ (⟨#[61]⟩ : ByteArray)).size + t297.size ≤ 9223372036854775807 then (trystref08_Print.l1 k2 ((x4_2 ++ (⟨#[61]⟩ : ByteArray)) ++ t297) x17_1 (l0_1.length : Int) x17_1 (((rd_T44 l0_1 x17_1).f1).length : Int) (wrap64 (x36_2 + 1)) a0_0 l0_1 a0_2) else (none)) else (none)) else (if x4_2.size + 1 ≤ 9223372036854775807 then (if (x4_2 ++ (⟨#[44]⟩ : ByteArray)).size + t297.size ≤ 9223372036854775807 then (trystref08_Print.l1 k2 ((x4_2 ++ (⟨#[44]⟩ : ByteArray)) ++ t297) x17_1 (l0_1.length : Int) x17_1 (((rd_T44 l0_1 x17_1).f1).length : Int) (wrap64 (x36_2 + 1)) a0_0 l0_1 a0_2) else (none)) else (none))) = some (r1, r2) := H
                have A19 := Aside0.mk A190
                clear A190
                by_cases c20 : x36_2 = 0
                ·rw [if_pos c20] at H
                 have c20b0 : (x36_2 == 0) = true := beq_iff_eq.mpr c20
                 have c20b1 : (x36_2 != 0) = false := bne_eq_false_iff_eq.mpr c20
                 clear c20
                 by_cases c21 : x4_2.size + 1 ≤ 9223372036854775807
                 ·rw [if_pos c21] at H
                  have c21b0 := eq_true c21
                  have c21b1 : decide (x4_2.size + 1 ≤ 9223372036854775807) = true := decide_eq_true c21
                  try have c21b2 : (9223372036854775807 < x4_2.size + 1) = False := eq_false (Nat.not_lt.2 c21)
                  by_cases c22 : (x4_2 ++ (⟨#[61]⟩ : ByteArray)).size + t297.size ≤ 9223372036854775807
                  ·rw [if_pos c22] at H
                   have c22b0 := eq_true c22
                   have c22b1 : decide ((x4_2 ++ (⟨#[61]⟩ : ByteArray)).size + t297.size ≤ 9223372036854775807) = true := decide_eq_true c22
                   try have c22b2 : (9223372036854775807 < (x4_2 ++ (⟨#[61]⟩ : ByteArray)).size + t297.size) = False := eq_false (Nat.not_lt.2 c22)
                   have H' := Aside0.mk H
                   clear H
                   have hcz23_0 : wr.cell? ⟨gb291, 0, none⟩ = some (.string a0_0) := (blk_cell BK291.out 0).trans rfl
                   have hcz23_1 : wr.cell? ⟨gb291, 1, none⟩ = some (.slice (some ad293) l0_1.length c0_1) := (blk_cell BK291.out 1).trans rfl
                   have hcz23_2 : wr.cell? ⟨gb291, 2, none⟩ = some (.string a0_2) := (blk_cell BK291.out 2).trans rfl
                   have hfz23_0 := blk_frozen BK291.out 0
                   have hfz23_1 := blk_frozen BK291.out 1
                   have hfz23_2 := blk_frozen BK291.out 2
                   have p295 : 0 ≤ (x17_1 : Int) := of_decide_eq_true (by first | (with_reducible assumption) | assumption)
                   have q295 : x17_1 < (l0_1.length : Int) := of_decide_eq_true (by first | (with_reducible assumption) | assumption)
                   obtain ⟨ad295, A295_1, c295_1, e295, hx295_0, hx295_1, hl295_1, hi295_1⟩ := at_T44 HR0_1.out x17_1 p295 q295
                   obtain rfl : ad293 = ad295 := (by injection e295)
                   replace hx295_0 := (HB.out.cell (World.block_lt_of_cell? w _ hx295_0)).trans hx295_0
                   replace hx295_1 := (HB.out.cell (World.block_lt_of_cell? w _ hx295_1)).trans hx295_1
                   have HR295_1 := Aside0.mk hi295_1
                   have HC295_1 := Aside0.mk hl295_1
                   clear hi295_1 hl295_1
                   replace p295 := eq_true p295
                   replace q295 := eq_true q295
                   have p296 : 0 ≤ (x36_2 : Int) := of_decide_eq_true (by first | (with_reducible assumption) | assumption)
                   have q296 : x36_2 < (((rd_T44 l0_1 x17_1).f1).length : Int) := of_decide_eq_true (by first | (with_reducible assumption) | assumption)
                   obtain ⟨ad296, e296, hx296_0⟩ := Kd.at_string HR295_1.out x36_2 p296 q296
                   cases e296
                   replace hx296_0 := (HB.out.cell (World.block_lt_of_cell? w _ hx296_0)).trans hx296_0
                   replace p296 := eq_true p296
                   replace q296 := eq_true q296
                   go_wp2_with (first | ((with_reducible refine gate_callee (f := 24) rfl ?_); refine goesL_ (some 49) rfl rfl Tryz.func24 (by kernel_rfl) rfl #[.string (rdOf ByteArray.empty ((rd_T44 l0_1 x17_1).f1) x36_2)] rfl (by (try simp only [List.map_toArray, List.map_cons, List.map_nil]); first | done | rfl | (simp only [List.length_drop, List.length_take]; rfl)) ?_; (with_reducible refine (trystref08_Param.calls k2 (rdOf ByteArray.empty ((rd_T44 l0_1 x17_1).f1) x36_2) t297 t298 _ (by first | (with_reducible exact hG) | exact GG.below hG (by repeat (first | (with_reducible first | exact HB.out | apply below_alloc | apply pw_below_drewN | apply below_drew1 | refine below_set ?_ GE291.out) | exact HB.out))) A19.out).mono ?_); rintro e w24 ⟨rfl, hb⟩; refine ⟨_, rfl, ?_⟩; have n0_ := Aside0.mk (blk_below (g := gb291) (o := .cells #[.string a0_0, .slice (some ad293) l0_1.length c0_1, .string a0_2] 24 (0, 0)) (by (with_reducible repeat (first | refine blk_drewN ?_ _ | refine blk_drew ?_ | refine blk_alloc ?_ _)); exact BK291.out) hb); have n1_ := Aside0.mk (below_step (by repeat (first | (with_reducible first | exact HB.out | apply below_alloc | apply pw_below_drewN | apply below_drew1 | refine below_set ?_ GE291.out) | exact HB.out)) hb); clear BK291; clear HB; have BK291 := n0_; have HB := n1_; clear n0_ n1_; (try clear hb); (try clear hb2); (try clear hk); (try clear hi)))
                   go_roundg k2
                   case measure => have := HK1.out; have := HK2.out; omega
                   case rel => exact ⟨((x4_2 ++ (⟨#[61]⟩ : ByteArray)) ++ t297), (wrap64 (x36_2 + 1)), (by first | rfl | (simp; done) | (simp [bne_nil_isEmpty, beq_nil_isEmpty]; done) | (simp [*]; done)), (by first | rfl | (simp; done) | (simp [bne_nil_isEmpty, beq_nil_isEmpty]; done) | (simp [*]; done)), H', ⟨by have := HK1.out; have := HK2.out; omega⟩, ⟨by (with_reducible repeat (first | refine blk_drewN ?_ _ | refine blk_drew ?_ | refine blk_alloc ?_ _)); exact BK291.out⟩, ⟨by repeat (first | (with_reducible first | exact HB.out | apply below_alloc | apply pw_below_drewN | apply below_drew1 | refine below_set ?_ GE291.out) | exact HB.out)⟩⟩
                  ·rw [if_neg c22] at H
                   exact absurd H (by simp)
                 ·rw [if_neg c21] at H
                  exact absurd H (by simp)
                ·rw [if_neg c20] at H
                 have c20b0 : (x36_2 == 0) = false := beq_eq_false_iff_ne.mpr c20
                 have c20b1 : (x36_2 != 0) = true := bne_iff_ne.mpr c20
                 by_cases c25 : x4_2.size + 1 ≤ 9223372036854775807
                 ·rw [if_pos c25] at H
                  have c25b0 := eq_true c25
                  have c25b1 : decide (x4_2.size + 1 ≤ 9223372036854775807) = true := decide_eq_true c25
                  try have c25b2 : (9223372036854775807 < x4_2.size + 1) = False := eq_false (Nat.not_lt.2 c25)
                  by_cases c26 : (x4_2 ++ (⟨#[44]⟩ : ByteArray)).size + t297.size ≤ 9223372036854775807
                  ·rw [if_pos c26] at H
                   have c26b0 := eq_true c26
                   have c26b1 : decide ((x4_2 ++ (⟨#[44]⟩ : ByteArray)).size + t297.size ≤ 9223372036854775807) = true := decide_eq_true c26
                   try have c26b2 : (9223372036854775807 < (x4_2 ++ (⟨#[44]⟩ : ByteArray)).size + t297.size) = False := eq_false (Nat.not_lt.2 c26)
                   have H' := Aside0.mk H
                   clear H
                   have hcz27_0 : wr.cell? ⟨gb291, 0, none⟩ = some (.string a0_0) := (blk_cell BK291.out 0).trans rfl
                   have hcz27_1 : wr.cell? ⟨gb291, 1, none⟩ = some (.slice (some ad293) l0_1.length c0_1) := (blk_cell BK291.out 1).trans rfl
                   have hcz27_2 : wr.cell? ⟨gb291, 2, none⟩ = some (.string a0_2) := (blk_cell BK291.out 2).trans rfl
                   have hfz27_0 := blk_frozen BK291.out 0
                   have hfz27_1 := blk_frozen BK291.out 1
                   have hfz27_2 := blk_frozen BK291.out 2
                   have p295 : 0 ≤ (x17_1 : Int) := of_decide_eq_true (by first | (with_reducible assumption) | assumption)
                   have q295 : x17_1 < (l0_1.length : Int) := of_decide_eq_true (by first | (with_reducible assumption) | assumption)
                   obtain ⟨ad295, A295_1, c295_1, e295, hx295_0, hx295_1, hl295_1, hi295_1⟩ := at_T44 HR0_1.out x17_1 p295 q295
                   obtain rfl : ad293 = ad295 := (by injection e295)
                   replace hx295_0 := (HB.out.cell (World.block_lt_of_cell? w _ hx295_0)).trans hx295_0
                   replace hx295_1 := (HB.out.cell (World.block_lt_of_cell? w _ hx295_1)).trans hx295_1
                   have HR295_1 := Aside0.mk hi295_1
                   have HC295_1 := Aside0.mk hl295_1
                   clear hi295_1 hl295_1
                   replace p295 := eq_true p295
                   replace q295 := eq_true q295
                   have p296 : 0 ≤ (x36_2 : Int) := of_decide_eq_true (by first | (with_reducible assumption) | assumption)
                   have q296 : x36_2 < (((rd_T44 l0_1 x17_1).f1).length : Int) := of_decide_eq_true (by first | (with_reducible assumption) | assumption)
                   obtain ⟨ad296, e296, hx296_0⟩ := Kd.at_string HR295_1.out x36_2 p296 q296
                   cases e296
                   replace hx296_0 := (HB.out.cell (World.block_lt_of_cell? w _ hx296_0)).trans hx296_0
                   replace p296 := eq_true p296
                   replace q296 := eq_true q296
                   go_wp2_with (first | ((with_reducible refine gate_callee (f := 24) rfl ?_); refine goesL_ (some 49) rfl rfl Tryz.func24 (by kernel_rfl) rfl #[.string (rdOf ByteArray.empty ((rd_T44 l0_1 x17_1).f1) x36_2)] rfl (by (try simp only [List.map_toArray, List.map_cons, List.map_nil]); first | done | rfl | (simp only [List.length_drop, List.length_take]; rfl)) ?_; (with_reducible refine (trystref08_Param.calls k2 (rdOf ByteArray.empty ((rd_T44 l0_1 x17_1).f1) x36_2) t297 t298 _ (by first | (with_reducible exact hG) | exact GG.below hG (by repeat (first | (with_reducible first | exact HB.out | apply below_alloc | apply pw_below_drewN | apply below_drew1 | refine below_set ?_ GE291.out) | exact HB.out))) A19.out).mono ?_); rintro e w28 ⟨rfl, hb⟩; refine ⟨_, rfl, ?_⟩; have n0_ := Aside0.mk (blk_below (g := gb291) (o := .cells #[.string a0_0, .slice (some ad293) l0_1.length c0_1, .string a0_2] 24 (0, 0)) (by (with_reducible repeat (first | refine blk_drewN ?_ _ | refine blk_drew ?_ | refine blk_alloc ?_ _)); exact BK291.out) hb); have n1_ := Aside0.mk (below_step (by repeat (first | (with_reducible first | exact HB.out | apply below_alloc | apply pw_below_drewN | apply below_drew1 | refine below_set ?_ GE291.out) | exact HB.out)) hb); clear BK291; clear HB; have BK291 := n0_; have HB := n1_; clear n0_ n1_; (try clear hb); (try clear hb2); (try clear hk); (try clear hi)))
                   go_roundg k2
                   case measure => have := HK1.out; have := HK2.out; omega
                   case rel => exact ⟨((x4_2 ++ (⟨#[44]⟩ : ByteArray)) ++ t297), (wrap64 (x36_2 + 1)), (by first | rfl | (simp; done) | (simp [bne_nil_isEmpty, beq_nil_isEmpty]; done) | (simp [*]; done)), (by first | rfl | (simp; done) | (simp [bne_nil_isEmpty, beq_nil_isEmpty]; done) | (simp [*]; done)), H', ⟨by have := HK1.out; have := HK2.out; omega⟩, ⟨by (with_reducible repeat (first | refine blk_drewN ?_ _ | refine blk_drew ?_ | refine blk_alloc ?_ _)); exact BK291.out⟩, ⟨by repeat (first | (with_reducible first | exact HB.out | apply below_alloc | apply pw_below_drewN | apply below_drew1 | refine below_set ?_ GE291.out) | exact HB.out)⟩⟩
                  ·rw [if_neg c26] at H
                   exact absurd H (by simp)
                 ·rw [if_neg c25] at H
                  exact absurd H (by simp)
               ·rw [if_neg c18] at H
                exact absurd H (by simp)
              ·rw [if_neg c17] at H
               exact absurd H (by simp)
             ·rw [if_neg c16] at H
              exact absurd H (by simp)
            ·rw [if_neg c15] at H
             exact absurd H (by simp)
           ·rw [if_neg c14] at H
            have c14b0 : decide (x36_2 < (((rd_T44 l0_1 x17_1).f1).length : Int)) = false := decide_eq_false c14
            clear c14
            have H' := Aside0.mk H
            clear H
            go_wp2
            go_roundg k2
            case measure => have := HK1.out; have := HK2.out; omega
            case rel => exact ⟨(x4_2), (wrap64 (x17_1 + 1)), (by first | rfl | (simp; done) | (simp [bne_nil_isEmpty, beq_nil_isEmpty]; done) | (simp [*]; done)), (by first | rfl | (simp; done) | (simp [bne_nil_isEmpty, beq_nil_isEmpty]; done) | (simp [*]; done)), H', ⟨by have := HK1.out; have := HK2.out; omega⟩, ⟨by (with_reducible repeat (first | refine blk_drewN ?_ _ | refine blk_drew ?_ | refine blk_alloc ?_ _)); exact BK291.out⟩, ⟨by repeat (first | (with_reducible first | exact HB.out | apply below_alloc | apply pw_below_drewN | apply below_drew1 | refine below_set ?_ GE291.out) | exact HB.out)⟩⟩
        ·rw [if_neg c12] at H
         exact absurd H (by simp)
       ·rw [if_neg c11] at H
        exact absurd H (by simp)
      ·rw [if_neg c10] at H
       exact absurd H (by simp)
     ·rw [if_neg c9] at H
      exact absurd H (by simp)
    ·rw [if_neg c8] at H
     have c8b0 : decide (x17_1 < (l0_1.length : Int)) = false := decide_eq_false c8
     clear c8
     by_cases c29 : x4_1.size + 1 ≤ 9223372036854775807
     ·rw [if_pos c29] at H
      have c29b0 := eq_true c29
      have c29b1 : decide (x4_1.size + 1 ≤ 9223372036854775807) = true := decide_eq_true c29
      try have c29b2 : (9223372036854775807 < x4_1.size + 1) = False := eq_false (Nat.not_lt.2 c29)
      by_cases c30 : (x4_1 ++ (⟨#[58]⟩ : ByteArray)).size + a0_2.size ≤ 9223372036854775807
      ·rw [if_pos c30] at H
       have c30b0 := eq_true c30
       have c30b1 : decide ((x4_1 ++ (⟨#[58]⟩ : ByteArray)).size + a0_2.size ≤ 9223372036854775807) = true := decide_eq_true c30
       try have c30b2 : (9223372036854775807 < (x4_1 ++ (⟨#[58]⟩ : ByteArray)).size + a0_2.size) = False := eq_false (Nat.not_lt.2 c30)
       by_cases c31 : (((x4_1 ++ (⟨#[58]⟩ : ByteArray)) ++ a0_2).size : Int) > 2000
       ·rw [if_pos c31] at H
        have c31b0 : decide (2000 < (((x4_1 ++ (⟨#[58]⟩ : ByteArray)) ++ a0_2).size : Int)) = true := decide_eq_true c31
        have c31b3 : decide ((2000 : Int) < (x4_1.size : Int) + 1 + (a0_2.size : Int)) = true := by have h9 := c31b0; rw [show ((((x4_1 ++ (⟨#[58]⟩ : ByteArray)) ++ a0_2).size : Nat) : Int) = (x4_1.size : Int) + 1 + (a0_2.size : Int) from by simp only [ByteArray.size_append]; first | rfl | (simp; done) | (simp; omega)] at h9; exact h9
        have c31b1 : decide (2000 < ((x4_1 ++ (⟨#[58]⟩ : ByteArray)) ++ a0_2).size) = true := decide_eq_true (by omega)
        clear c31
        simp only [Option.some.injEq, Prod.mk.injEq] at H
        obtain ⟨rfl, rfl⟩ := H
        have hcz32_0 : wr.cell? ⟨gb291, 0, none⟩ = some (.string a0_0) := (blk_cell BK291.out 0).trans rfl
        have hcz32_1 : wr.cell? ⟨gb291, 1, none⟩ = some (.slice A0_1 l0_1.length c0_1) := (blk_cell BK291.out 1).trans rfl
        have hcz32_2 : wr.cell? ⟨gb291, 2, none⟩ = some (.string a0_2) := (blk_cell BK291.out 2).trans rfl
        have hfz32_0 := blk_frozen BK291.out 0
        have hfz32_1 := blk_frozen BK291.out 1
        have hfz32_2 := blk_frozen BK291.out 2
        go_wp2
        go_ret2
        exact ⟨by first | rfl | (simp [errW_none, errW_some] <;> rfl) | (simp [*, errW_none, errW_some] <;> rfl), by repeat (first | (with_reducible first | exact HB.out | apply below_alloc | apply pw_below_drewN | apply below_drew1 | refine below_set ?_ GE291.out) | exact HB.out)⟩
       ·rw [if_neg c31] at H
        have c31b0 : decide (2000 < (((x4_1 ++ (⟨#[58]⟩ : ByteArray)) ++ a0_2).size : Int)) = false := decide_eq_false c31
        have c31b3 : decide ((2000 : Int) < (x4_1.size : Int) + 1 + (a0_2.size : Int)) = false := by have h9 := c31b0; rw [show ((((x4_1 ++ (⟨#[58]⟩ : ByteArray)) ++ a0_2).size : Nat) : Int) = (x4_1.size : Int) + 1 + (a0_2.size : Int) from by simp only [ByteArray.size_append]; first | rfl | (simp; done) | (simp; omega)] at h9; exact h9
        have c31b1 : decide (2000 < ((x4_1 ++ (⟨#[58]⟩ : ByteArray)) ++ a0_2).size) = false := decide_eq_false (by omega)
        clear c31
        simp only [Option.some.injEq, Prod.mk.injEq] at H
        obtain ⟨rfl, rfl⟩ := H
        have hcz33_0 : wr.cell? ⟨gb291, 0, none⟩ = some (.string a0_0) := (blk_cell BK291.out 0).trans rfl
        have hcz33_1 : wr.cell? ⟨gb291, 1, none⟩ = some (.slice A0_1 l0_1.length c0_1) := (blk_cell BK291.out 1).trans rfl
        have hcz33_2 : wr.cell? ⟨gb291, 2, none⟩ = some (.string a0_2) := (blk_cell BK291.out 2).trans rfl
        have hfz33_0 := blk_frozen BK291.out 0
        have hfz33_1 := blk_frozen BK291.out 1
        have hfz33_2 := blk_frozen BK291.out 2
        go_wp2
        go_ret2
        exact ⟨by first | rfl | (simp [errW_none, errW_some] <;> rfl) | (simp [*, errW_none, errW_some] <;> rfl), by repeat (first | (with_reducible first | exact HB.out | apply below_alloc | apply pw_below_drewN | apply below_drew1 | refine below_set ?_ GE291.out) | exact HB.out)⟩
      ·rw [if_neg c30] at H
       exact absurd H (by simp)
     ·rw [if_neg c29] at H
      exact absurd H (by simp)
 ·replace c3 := Bool.eq_false_iff.mpr c3
  subst c3
  rw [if_neg (show ¬ (false = true) by decide)] at H
  simp only [Option.some.injEq, Prod.mk.injEq] at H
  obtain ⟨rfl, rfl⟩ := H
  go_enter Tryz.func10, Tryz.ntmps10
  go_wp2_with (first | ((with_reducible refine gate_dst (N := 1) rfl ?_); refine box_event ?hg (N := 1) ?hd (cs := #[.string a0_0, .slice A0_1 l0_1.length c0_1, .string a0_2]) (t := 24) ?hr ?_; (case hd => rfl); (case hg => rfl); (case hr => first | (go_simp; done) | (go_simp; rfl)); intro gb291 hg w34 hbox hb; have n0_ := Aside0.mk (below_step (by repeat (first | (with_reducible first | exact HB.out | apply below_alloc | apply pw_below_drewN | apply below_drew1) | exact HB.out)) hb); have n1_ := Aside0.mk (hbox); have n2_ := Aside0.mk ((by rw [hg]; exact (below_size (by repeat (first | (with_reducible first | exact HB.out | apply below_alloc | apply pw_below_drewN | apply below_drew1) | exact HB.out))) : w.heap.size ≤ gb291)); have n3_ := Aside0.mk ((by rw [hg]; exact (below_size (by repeat (first | (with_reducible first | exact HB.out | apply below_alloc | apply pw_below_drewN | apply below_drew1) | exact HB.out))) : w.heap.size ≤ gb291)); clear HB; have HB := n0_; have BK291 := n1_; have GW291 := n2_; have GE291 := n3_; clear n0_ n1_ n2_ n3_; clear hb hbox hg; have hcz35_0 : w34.cell? ⟨gb291, 0, none⟩ = some (.string a0_0) := (blk_cell BK291.out 0).trans rfl; have hcz35_1 : w34.cell? ⟨gb291, 1, none⟩ = some (.slice A0_1 l0_1.length c0_1) := (blk_cell BK291.out 1).trans rfl; have hcz35_2 : w34.cell? ⟨gb291, 2, none⟩ = some (.string a0_2) := (blk_cell BK291.out 2).trans rfl; have hfz35_0 := blk_frozen BK291.out 0; have hfz35_1 := blk_frozen BK291.out 1; have hfz35_2 := blk_frozen BK291.out 2) | ((with_reducible refine gate_callee (f := 12) rfl ?_); refine goesL_ (some 10) rfl rfl Tryz.func12 (by kernel_rfl) rfl #[.agg #[.string a0_0, .slice A0_1 l0_1.length c0_1, .string a0_2]] rfl (by (try simp only [List.map_toArray, List.map_cons, List.map_nil]); first | done | rfl | (simp only [List.length_drop, List.length_take]; rfl)) ?_; (with_reducible refine (trystref08_Formed.calls k a0_0 _ _ l0_1 a0_2 false _ (by first | (with_reducible exact hG) | exact GG.below hG (by repeat (first | (with_reducible first | exact HB.out | apply below_alloc | apply pw_below_drewN | apply below_drew1 | refine below_set ?_ GE291.out) | exact HB.out))) ?side1 ?side2 A2.out).mono ?_); (case side1 => repeat (first | exact (Kd.C_below HR0_1.out HB.out) | (with_reducible refine Kd.C_alloc ?_ _) | (with_reducible refine Kd.C_drewN ?_ _) | (with_reducible refine Kd.C_drew ?_))); (case side2 => exact HC0_1.out); rintro e w36 ⟨rfl, hb⟩; refine ⟨_, rfl, ?_⟩; have n0_ := Aside0.mk (blk_below (g := gb291) (o := .cells #[.string a0_0, .slice A0_1 l0_1.length c0_1, .string a0_2] 24 (0, 0)) (by (with_reducible repeat (first | refine blk_drewN ?_ _ | refine blk_drew ?_ | refine blk_alloc ?_ _)); exact BK291.out) hb); have n1_ := Aside0.mk (below_step (by repeat (first | (with_reducible first | exact HB.out | apply below_alloc | apply pw_below_drewN | apply below_drew1 | refine below_set ?_ GE291.out) | exact HB.out)) hb); clear BK291; clear HB; have BK291 := n0_; have HB := n1_; clear n0_ n1_; (try clear hb); (try clear hb2); (try clear hk); (try clear hi)))
  go_ret2
  exact ⟨by first | rfl | (simp [errW_none, errW_some] <;> rfl) | (simp [*, errW_none, errW_some] <;> rfl), by repeat (first | (with_reducible first | exact HB.out | apply below_alloc | apply pw_below_drewN | apply below_drew1 | refine below_set ?_ GE291.out) | exact HB.out)⟩
end Go.Proofs.YtknmbalhbecdhaaGreatDoor.Print
end
section
set_option linter.unusedVariables false
set_option linter.unusedSimpArgs false
set_option linter.unusedSectionVars false
namespace Go.Proofs.YtknmbalhbecdhaaGreatDoor.Pure
open Go.RowKit Go.Proofs.YtknmbalhbecdhaaGreatDoor.Print Go.Proofs.YtknmbalhbecdhaaGreatDoorW.PrintWords Go.Proofs.YtknmbalhbecdhaaGreatDoorW.PrintLast
def paramW (x : ByteArray) : ByteArray × Int := if cleanR true x.data.toList = 0 then (parW x, 0) else (⟨#[]⟩, cleanR true x.data.toList)
def wI (L : List UInt8) : List Int := L.map fun b => (b.toNat : Int)
theorem str_wI (L : List UInt8) : strOfNums (wI L) = ⟨L.toArray⟩ := by simp only [wI]; exact Go.Lib.Lz.strOfNums_map L
theorem wI_len (L : List UInt8) : (wI L).length = L.length := by simp [wI]
theorem wI_app (L M : List UInt8) : wI L ++ wI M = wI (L ++ M) := by simp [wI]
theorem is_natW (c : UInt8) (n : Nat) (hn : n < 256) (h : c = n.toUInt8) : (c.toNat : Int) = (n : Int) := by subst h; simp; omega
theorem pa_step (k : Nat) (s : ByteArray) (A : List UInt8) (f : Bool) (i : Nat) (hi : i < s.size) (hs : s.size ≤ 100000) (hA : A.length ≤ 1000000) (c : UInt8) (hb : bt s (i : Int) = (c.toNat : Int)) :
    trystref08_Param.l0 (k + 1) s (wI A) f (s.size : Int) (i : Int) = trystref08_Param.l0 k s (wI (A ++ parB c)) (f || quoB c) (s.size : Int) ((i + 1 : Nat) : Int) := by
  have e3 : ([94, 94] : List Int) = wI [94, 94] := rfl
  have e2 : ([94, 110] : List Int) = wI [94, 110] := rfl
  have e1 : ([94, 39] : List Int) = wI [94, 39] := rfl
  have e0 : ([(c.toNat : Int)] : List Int) = wI [c] := rfl
  simp only [trystref08_Param.l0, hb, Option.bind_some, e3, e2, e1, e0, wI_app, wI_len]
  rw [if_pos (by omega), if_pos (by omega), if_pos (by omega), wrap_one i (by omega)]
  unfold parB
  by_cases h94 : c = 94
  · rw [if_pos (show (c.toNat : Int) = 94 from is_natW c 94 (by omega) h94), if_pos h94, if_pos (by simp; omega), h94, show quoB 94 = false from rfl, Bool.or_false]
  rw [if_neg (show ¬ (c.toNat : Int) = 94 from ne_nat c 94 (by omega) h94), if_neg h94]
  by_cases h10 : c = 10
  · rw [if_pos (show (c.toNat : Int) = 10 from is_natW c 10 (by omega) h10), if_pos h10, if_pos (by simp; omega), h10, show quoB 10 = false from rfl, Bool.or_false]
  rw [if_neg (show ¬ (c.toNat : Int) = 10 from ne_nat c 10 (by omega) h10), if_neg h10]
  by_cases h34 : c = 34
  · rw [if_pos (show (c.toNat : Int) = 34 from is_natW c 34 (by omega) h34), if_pos h34, if_pos (by simp; omega), h34, show quoB 34 = false from rfl, Bool.or_false]
  rw [if_neg (show ¬ (c.toNat : Int) = 34 from ne_nat c 34 (by omega) h34), if_neg h34]
  cases f
  · rw [if_neg (by simp), Bool.false_or]
    unfold quoB
    by_cases h58 : c = 58
    · rw [if_pos (show (c.toNat : Int) = 58 from is_natW c 58 (by omega) h58), if_pos (by omega), h58]; rfl
    rw [if_neg (show ¬ (c.toNat : Int) = 58 from ne_nat c 58 (by omega) h58)]
    by_cases h59 : c = 59
    · rw [if_pos (show (c.toNat : Int) = 59 from is_natW c 59 (by omega) h59), if_pos (by omega), h59]; rfl
    rw [if_neg (show ¬ (c.toNat : Int) = 59 from ne_nat c 59 (by omega) h59), if_pos (by omega), beq_eq_false_iff_ne.2 h58, beq_eq_false_iff_ne.2 h59, Bool.false_or, Bool.false_or]
    congr 1
    by_cases h44 : c = 44
    · rw [h44]; rfl
    · rw [beq_eq_false_iff_ne.2 h44, beq_eq_false_iff_ne.2 (show ¬ (c.toNat : Int) = 44 from ne_nat c 44 (by omega) h44)]
  · rw [if_pos rfl, if_pos (by omega), Bool.true_or]
def endP (A : List UInt8) (f : Bool) : List UInt8 := if f = true then [34] ++ A ++ [34] else A
theorem ba_sizeW (l : List UInt8) : (⟨l.toArray⟩ : ByteArray).size = l.length := by show l.toArray.size = _; rw [List.size_toArray]
theorem ba_appW (a b : List UInt8) : (⟨a.toArray⟩ : ByteArray) ++ ⟨b.toArray⟩ = ⟨(a ++ b).toArray⟩ := by
  apply ByteArray.ext
  rw [ByteArray.data_append]
  simp
theorem pa_end (k : Nat) (s : ByteArray) (A : List UInt8) (f : Bool) (hA : A.length ≤ 1000000) : trystref08_Param.l0 (k + 1) s (wI A) f (s.size : Int) ((s.size : Nat) : Int) = some (⟨(endP A f).toArray⟩, 0) := by
  have e : (⟨#[34]⟩ : ByteArray) = ⟨[(34 : UInt8)].toArray⟩ := rfl
  simp only [trystref08_Param.l0, str_wI, e, ba_appW, ba_sizeW]
  rw [if_neg (by omega)]
  unfold endP
  cases f
  · rw [if_neg (by simp), if_neg (by simp)]
  · rw [if_pos rfl, if_pos (by omega), if_pos (by simp; omega), if_pos rfl]
theorem pa_ev (s : ByteArray) (hs : s.size ≤ 100000) : ∀ (n i : Nat) (A : List UInt8) (f : Bool), s.size - i ≤ n → i ≤ s.size → A.length ≤ 2 * i →
    Ev (fun k => trystref08_Param.l0 k s (wI A) f (s.size : Int) (i : Int)) (⟨(endP (A ++ parT (s.data.toList.drop i)) (f || (s.data.toList.drop i).any quoB)).toArray⟩, 0)
  | 0, i, A, f, hn, hi, hA => by
    obtain rfl : i = s.size := by omega
    rw [List.drop_of_length_le (by simp), show parT [] = [] from rfl, List.append_nil, List.any_nil, Bool.or_false]
    exact Ev.step (f := fun _ => some (⟨(endP A f).toArray⟩, 0)) (fun k => pa_end k s A f (by omega)) (Ev.now _)
  | n + 1, i, A, f, hn, hi, hA => by
    by_cases hlt : i < s.size
    case neg => exact pa_ev s hs n i A f (by omega) hi hA
    have hb := bt_nat s i
    rw [drop_at s i hlt, parT_cons, List.any_cons]
    generalize s.data.toList.getD i 0 = c at *
    have hle := parB_le c
    refine Ev.step (fun k => pa_step k s A f i hlt hs (by omega) c hb) ?_
    have ih := pa_ev s hs n (i + 1) (A ++ parB c) (f || quoB c) (by omega) (by omega) (by rw [List.length_append]; omega)
    rw [List.append_assoc, Bool.or_assoc] at ih
    exact ih
theorem ref_param (s : ByteArray) (hs : s.size ≤ 100000) : Ev (fun k => trystref08_Param.f k s) (paramW s) := by
  refine Ev.bind (refClean s true (by omega)) ?_
  unfold paramW
  by_cases h0 : cleanR true s.data.toList = 0
  · simp only [if_pos h0]
    have := pa_ev s hs s.size 0 [] false (by omega) (by omega) (by simp)
    rw [List.drop_zero, List.nil_append, Bool.false_or] at this
    exact this
  · simp only [if_neg h0]; exact Ev.now _
theorem ba_backB (s : ByteArray) : (⟨s.data.toList.toArray⟩ : ByteArray) = s := by cases s; simp
end Go.Proofs.YtknmbalhbecdhaaGreatDoor.Pure
end
