/- Texts of the proof of LinePrints, put together: Print4 PLine0 Print5 ParSpec Repl ReplL ReplN ReplB ReplO Param LPrint. -/
import Derived.Test.YtknmbalhbecdhaaGreatDoorProg
import Derived.Below
import Derived.Deep.Draws
import Derived.Deep.AppendLies
import Derived.Maps.AppendAt
import Derived.OwnWalk
import Derived.Laws.BytesArg
import Derived.Laws.MakeOwn
import Derived.Laws.OwnMore
import Derived.Deep.OwnRows
import Derived.Tactics
import Derived.Lib.ConvBytes
import Derived.Laws.Slices
import Derived.WalkKit
import Derived.KernelRfl
import Derived.RowKit3
import Derived.Deep.LoopGhost
import Derived.Deep.QuietTactic
import Derived.BigQuiet
import Derived.WideLaws
import Derived.Deep.DeepCutAuto
import Derived.Deep.CutBlock
import Derived.Deep.RegionHeld3
import Derived.Laws.Rows
import Derived.Lib.AppendStr
import Derived.ArgAppend
import Derived.Laws.IdiomCopy
import Derived.OrdersHeld
import Derived.Laws.BitsLemmas
import Derived.RowKit
import Derived.Shelf.Unicode.ValidAny
import Derived.Shelf.Strings.Builder1
import Derived.Shelf.Small.Utf8
import Derived.Shelf.Small.Strs
import Derived.Shelf.Strings.BuilderF
import Derived.Shelf.Strings.BuilderK
import Derived.Shelf.Strings.Search1
import Derived.Shelf.Strings.Search2
import Derived.Shelf.Strings.Search3
import Derived.Shelf.Strings.Count
import Derived.Shelf.LaysM
import Derived.Shelf.Strings.Shaped
import Derived.Shelf.Strings.Runes
import Derived.Shelf.Strings.IndexAny
import Derived.Shelf.Strings.AsciiSet
import Derived.Shelf.Strings.IndexAnyAll
import Derived.Shelf.Slices.Equal
import Derived.Shelf.Slices.Empties2
import Derived.WalkSpells
import Derived.Laws.Runes
import Derived.Laws.RangeAny
import Derived.Laws.RangeString
import Derived.Lib.IndexAny
import Derived.Lib.SpaceUEq
import Derived.Lib.RuneCount
import Derived.Lib.QuoteLoop
import Derived.Lib.Hide
import Derived.Lib.OthersKept
import Derived.Lib.DecodeN
import Derived.IntWalk
import Derived.Test.YtknmbalhbecdhaaGreatDoorWWords
import Derived.Test.YtknmbalhbecdhaaGreatDoorWLast
import Derived.Test.YtknmbalhbecdhaaGreatDoorWTab
import Derived.Test.YtknmbalhbecdhaaGreatDoorWApart
import Derived.Test.YtknmbalhbecdhaaGreatDoorWArr
import Derived.Test.YtknmbalhbecdhaaGreatDoorWFoot
import Derived.Test.YtknmbalhbecdhaaGreatDoorWKept
import Derived.Test.YtknmbalhbecdhaaGreatDoorWRepsOne
import Derived.Test.YtknmbalhbecdhaaGreatDoorWGuard
import Derived.Laws.NewBlocks
import Derived.Outline
import Derived.Laws.IdiomStrings
import Derived.Deep.RegionWith
import Derived.RegionCalls
import Derived.Lib.IndexLaws
import Derived.Lib.SmallJoins
import Derived.Laws.CopyRow
import Derived.Laws.CopyOwn
import Derived.Deep.WholeRow
import Derived.Tactics2
import Derived.Defers
import Derived.Laws.Pointers
import Derived.Laws.LoneSync
import Derived.RegionTactic
import Derived.Test.YtknmbalhbecdhaaGreatDoorQLinePrintsB
section
namespace Go.Proofs.YtknmbalhbecdhaaGreatDoor.Print
open Go.RowKit Go.Proofs.YtknmbalhbecdhaaGreatDoorW.PrintWords Go.Proofs.YtknmbalhbecdhaaGreatDoorW.PrintLast
set_option linter.unusedVariables false
set_option linter.unusedSimpArgs false
def trystlaw10_awake.f (k : Nat)  : Option (Bool) := (line_Parse.f k (⟨#[97, 59, 98, 61, 99, 58, 100]⟩ : ByteArray)).bind fun bt141 => (if bt141.2.2.2.2 = 0 then (if bt141.2.2.2.1 = 0 then (if bt141.1.toList = ([65] : List UInt8) then (if bt141.2.2.1.toList = ([100] : List UInt8) then (some ((bt141.2.1.length : Int) == 1)) else (some false)) else (some false)) else (some false)) else (some false))
theorem trystlaw10_awake.mono : ∀ k, LeO (trystlaw10_awake.f k ) (trystlaw10_awake.f (k + 1) ) := by
 intro  k
 unfold trystlaw10_awake.f
 repeat' first
   | (with_reducible exact line_Parse.mono _ _)
   | (with_reducible exact LeO.refl _)
   | (with_reducible exact LeO.none _)
   | (with_reducible refine LeO.ite ?_ ?_)
   | (with_reducible refine LeO.bind ?_ (fun _ => ?_))
   | exact line_Parse.mono _ _
   | exact LeO.none _
   | refine LeO.ite ?_ ?_
   | refine LeO.bind ?_ (fun _ => ?_)
set_option maxHeartbeats 8000000 in
set_option maxRecDepth 100000 in
theorem trystlaw10_awake.calls (k : Nat)  (r : Bool) (w : World) (hG : GG w) (h : trystlaw10_awake.f k  = some r) :
  Calls Tryz.prog 6 #[] w fun e w' => e = .returned (.bool r) ∧ Below w.heap.size w w' := by
 have hu32 := Tryz.underlying32
 have HB := Aside0.mk (Below.refl w.heap.size w)
 have H : ((line_Parse.f k (⟨#[97, 59, 98, 61, 99, 58, 100]⟩ : ByteArray)).bind fun bt141 => (if bt141.2.2.2.2 = 0 then (if bt141.2.2.2.1 = 0 then (if bt141.1.toList = ([65] : List UInt8) then (if bt141.2.2.1.toList = ([100] : List UInt8) then (some ((bt141.2.1.length : Int) == 1)) else (some false)) else (some false)) else (some false)) else (some false))) = some r := h
 clear h
 replace H := Option.bind_eq_some_iff.mp H
 obtain ⟨⟨t141, t142, t145, t146, t147⟩, A10, H⟩ := H
 replace H : (if t147 = 0 then (if t146 = 0 then (if t141.toList = ([65] : List UInt8) then (if t145.toList = ([100] : List UInt8) then (some ((t142.length : Int) == 1)) else (some false)) else (some false)) else (some false)) else (some false)) = some r := H
 have A1 := Aside0.mk A10
 clear A10
 by_cases c2 : t147 = 0
 ·rw [if_pos c2] at H
  have c2b0 : (t147 == 0) = true := beq_iff_eq.mpr c2
  have c2b1 : (t147 != 0) = false := bne_eq_false_iff_eq.mpr c2
  clear c2
  by_cases c3 : t146 = 0
  ·rw [if_pos c3] at H
   have c3b0 : (t146 == 0) = true := beq_iff_eq.mpr c3
   have c3b1 : (t146 != 0) = false := bne_eq_false_iff_eq.mpr c3
   clear c3
   by_cases c4 : t141.toList = ([65] : List UInt8)
   ·rw [if_pos c4] at H
    have c4b0 : (t141.toList == ([65] : List UInt8)) = true := beq_iff_eq.mpr c4
    have c4b1 : (t141.toList != ([65] : List UInt8)) = false := bne_eq_false_iff_eq.mpr c4
    clear c4
    by_cases c5 : t145.toList = ([100] : List UInt8)
    ·rw [if_pos c5] at H
     have c5b0 : (t145.toList == ([100] : List UInt8)) = true := beq_iff_eq.mpr c5
     have c5b1 : (t145.toList != ([100] : List UInt8)) = false := bne_eq_false_iff_eq.mpr c5
     clear c5
     obtain rfl := Option.some.inj H
     go_enter Tryz.func6, Tryz.ntmps6
     go_wp2_with (first | ((with_reducible refine gate_callee (f := 15) rfl ?_); refine goesL_ (some 5) rfl rfl Tryz.func15 (by kernel_rfl) rfl #[.string (⟨#[97, 59, 98, 61, 99, 58, 100]⟩ : ByteArray)] rfl (by (try simp only [List.map_toArray, List.map_cons, List.map_nil]); first | done | rfl | (simp only [List.length_drop, List.length_take]; rfl)) ?_; (with_reducible refine (line_Parse.calls k (⟨#[97, 59, 98, 61, 99, 58, 100]⟩ : ByteArray) t141 t142 t145 t146 t147 _ (by first | (with_reducible exact hG) | exact GG.below hG (by repeat (first | (with_reducible first | exact HB.out | apply below_alloc | apply pw_below_drewN | apply below_drew1) | exact HB.out))) A1.out).mono ?_); rintro e w6 ⟨v143, rfl, ho0, hb⟩; refine ⟨_, rfl, ?_⟩; have n0_ := Aside0.mk (Kd.S_lower ho0 (below_size (by repeat (first | (with_reducible first | exact HB.out | apply below_alloc | apply pw_below_drewN | apply below_drew1) | exact HB.out)))); have n1_ := Aside0.mk (below_step (by repeat (first | (with_reducible first | exact HB.out | apply below_alloc | apply pw_below_drewN | apply below_drew1) | exact HB.out)) hb); clear HB; have HO144 := n0_; have HB := n1_; clear n0_ n1_; (try clear hb); (try clear hb2); (try clear hk); (try clear hi); (try clear ho0)) | ((with_reducible refine gate_dst (N := 1) rfl ?_); (try (refine gate_guard (by rfl) ?_; dsimp only)); refine box_event ?hg (N := 1) ?hd (cs := #[.string (⟨#[]⟩ : ByteArray), .slice none 0 0, .string (⟨#[]⟩ : ByteArray)]) (t := 32) ?hr ?_; (case hd => rfl); (case hg => rfl); (case hr => first | (go_simp; done) | (go_simp; rfl)); intro gb148 hg w7 hbox hb; have n0_ := Aside0.mk (Kd.S_below (by (with_reducible repeat (first | apply Kd.S_alloc | apply Kd.S_drewN | apply Kd.S_drew)); exact HO144.out) hb); have n1_ := Aside0.mk (below_step (by repeat (first | (with_reducible first | exact HB.out | apply below_alloc | apply pw_below_drewN | apply below_drew1) | exact HB.out)) hb); have n2_ := Aside0.mk (hbox); have n3_ := Aside0.mk ((by rw [hg]; exact (below_size (by repeat (first | (with_reducible first | exact HB.out | apply below_alloc | apply pw_below_drewN | apply below_drew1) | exact HB.out))) : w.heap.size ≤ gb148)); have n4_ := Aside0.mk ((by rw [hg]; exact (below_size (by repeat (first | (with_reducible first | exact HB.out | apply below_alloc | apply pw_below_drewN | apply below_drew1) | exact HB.out))) : w.heap.size ≤ gb148)); clear HO144; clear HB; have HO144 := n0_; have HB := n1_; have BK148 := n2_; have GW148 := n3_; have GE148 := n4_; clear n0_ n1_ n2_ n3_ n4_; clear hb hbox hg; have hcz8_0 : w7.cell? ⟨gb148, 0, none⟩ = some (.string (⟨#[]⟩ : ByteArray)) := (blk_cell BK148.out 0).trans rfl; have hcz8_1 : w7.cell? ⟨gb148, 1, none⟩ = some (.slice none 0 0) := (blk_cell BK148.out 1).trans rfl; have hcz8_2 : w7.cell? ⟨gb148, 2, none⟩ = some (.string (⟨#[]⟩ : ByteArray)) := (blk_cell BK148.out 2).trans rfl; have hfz8_0 := blk_frozen BK148.out 0; have hfz8_1 := blk_frozen BK148.out 1; have hfz8_2 := blk_frozen BK148.out 2; obtain ⟨Ao9, co9, eo9⟩ := Kd.S_slice HO144.out; subst eo9))
     go_ret
     exact ⟨by first | rfl | (simp [errW_none, errW_some] <;> rfl) | (simp [*, errW_none, errW_some] <;> rfl), by repeat (first | (with_reducible first | exact HB.out | apply below_alloc | apply pw_below_drewN | apply below_drew1 | refine below_set ?_ GE148.out) | exact HB.out)⟩
    ·rw [if_neg c5] at H
     have c5b0 : (t145.toList == ([100] : List UInt8)) = false := beq_eq_false_iff_ne.mpr c5
     have c5b1 : (t145.toList != ([100] : List UInt8)) = true := bne_iff_ne.mpr c5
     obtain rfl := Option.some.inj H
     go_enter Tryz.func6, Tryz.ntmps6
     go_wp2_with (first | ((with_reducible refine gate_callee (f := 15) rfl ?_); refine goesL_ (some 5) rfl rfl Tryz.func15 (by kernel_rfl) rfl #[.string (⟨#[97, 59, 98, 61, 99, 58, 100]⟩ : ByteArray)] rfl (by (try simp only [List.map_toArray, List.map_cons, List.map_nil]); first | done | rfl | (simp only [List.length_drop, List.length_take]; rfl)) ?_; (with_reducible refine (line_Parse.calls k (⟨#[97, 59, 98, 61, 99, 58, 100]⟩ : ByteArray) t141 t142 t145 t146 t147 _ (by first | (with_reducible exact hG) | exact GG.below hG (by repeat (first | (with_reducible first | exact HB.out | apply below_alloc | apply pw_below_drewN | apply below_drew1) | exact HB.out))) A1.out).mono ?_); rintro e w10 ⟨v143, rfl, ho0, hb⟩; refine ⟨_, rfl, ?_⟩; have n0_ := Aside0.mk (Kd.S_lower ho0 (below_size (by repeat (first | (with_reducible first | exact HB.out | apply below_alloc | apply pw_below_drewN | apply below_drew1) | exact HB.out)))); have n1_ := Aside0.mk (below_step (by repeat (first | (with_reducible first | exact HB.out | apply below_alloc | apply pw_below_drewN | apply below_drew1) | exact HB.out)) hb); clear HB; have HO144 := n0_; have HB := n1_; clear n0_ n1_; (try clear hb); (try clear hb2); (try clear hk); (try clear hi); (try clear ho0)) | ((with_reducible refine gate_dst (N := 1) rfl ?_); (try (refine gate_guard (by rfl) ?_; dsimp only)); refine box_event ?hg (N := 1) ?hd (cs := #[.string (⟨#[]⟩ : ByteArray), .slice none 0 0, .string (⟨#[]⟩ : ByteArray)]) (t := 32) ?hr ?_; (case hd => rfl); (case hg => rfl); (case hr => first | (go_simp; done) | (go_simp; rfl)); intro gb148 hg w11 hbox hb; have n0_ := Aside0.mk (Kd.S_below (by (with_reducible repeat (first | apply Kd.S_alloc | apply Kd.S_drewN | apply Kd.S_drew)); exact HO144.out) hb); have n1_ := Aside0.mk (below_step (by repeat (first | (with_reducible first | exact HB.out | apply below_alloc | apply pw_below_drewN | apply below_drew1) | exact HB.out)) hb); have n2_ := Aside0.mk (hbox); have n3_ := Aside0.mk ((by rw [hg]; exact (below_size (by repeat (first | (with_reducible first | exact HB.out | apply below_alloc | apply pw_below_drewN | apply below_drew1) | exact HB.out))) : w.heap.size ≤ gb148)); have n4_ := Aside0.mk ((by rw [hg]; exact (below_size (by repeat (first | (with_reducible first | exact HB.out | apply below_alloc | apply pw_below_drewN | apply below_drew1) | exact HB.out))) : w.heap.size ≤ gb148)); clear HO144; clear HB; have HO144 := n0_; have HB := n1_; have BK148 := n2_; have GW148 := n3_; have GE148 := n4_; clear n0_ n1_ n2_ n3_ n4_; clear hb hbox hg; have hcz12_0 : w11.cell? ⟨gb148, 0, none⟩ = some (.string (⟨#[]⟩ : ByteArray)) := (blk_cell BK148.out 0).trans rfl; have hcz12_1 : w11.cell? ⟨gb148, 1, none⟩ = some (.slice none 0 0) := (blk_cell BK148.out 1).trans rfl; have hcz12_2 : w11.cell? ⟨gb148, 2, none⟩ = some (.string (⟨#[]⟩ : ByteArray)) := (blk_cell BK148.out 2).trans rfl; have hfz12_0 := blk_frozen BK148.out 0; have hfz12_1 := blk_frozen BK148.out 1; have hfz12_2 := blk_frozen BK148.out 2; obtain ⟨Ao13, co13, eo13⟩ := Kd.S_slice HO144.out; subst eo13))
     go_ret
     exact ⟨by first | rfl | (simp [errW_none, errW_some] <;> rfl) | (simp [*, errW_none, errW_some] <;> rfl), by repeat (first | (with_reducible first | exact HB.out | apply below_alloc | apply pw_below_drewN | apply below_drew1 | refine below_set ?_ GE148.out) | exact HB.out)⟩
   ·rw [if_neg c4] at H
    have c4b0 : (t141.toList == ([65] : List UInt8)) = false := beq_eq_false_iff_ne.mpr c4
    have c4b1 : (t141.toList != ([65] : List UInt8)) = true := bne_iff_ne.mpr c4
    obtain rfl := Option.some.inj H
    go_enter Tryz.func6, Tryz.ntmps6
    go_wp2_with (first | ((with_reducible refine gate_callee (f := 15) rfl ?_); refine goesL_ (some 5) rfl rfl Tryz.func15 (by kernel_rfl) rfl #[.string (⟨#[97, 59, 98, 61, 99, 58, 100]⟩ : ByteArray)] rfl (by (try simp only [List.map_toArray, List.map_cons, List.map_nil]); first | done | rfl | (simp only [List.length_drop, List.length_take]; rfl)) ?_; (with_reducible refine (line_Parse.calls k (⟨#[97, 59, 98, 61, 99, 58, 100]⟩ : ByteArray) t141 t142 t145 t146 t147 _ (by first | (with_reducible exact hG) | exact GG.below hG (by repeat (first | (with_reducible first | exact HB.out | apply below_alloc | apply pw_below_drewN | apply below_drew1) | exact HB.out))) A1.out).mono ?_); rintro e w14 ⟨v143, rfl, ho0, hb⟩; refine ⟨_, rfl, ?_⟩; have n0_ := Aside0.mk (Kd.S_lower ho0 (below_size (by repeat (first | (with_reducible first | exact HB.out | apply below_alloc | apply pw_below_drewN | apply below_drew1) | exact HB.out)))); have n1_ := Aside0.mk (below_step (by repeat (first | (with_reducible first | exact HB.out | apply below_alloc | apply pw_below_drewN | apply below_drew1) | exact HB.out)) hb); clear HB; have HO144 := n0_; have HB := n1_; clear n0_ n1_; (try clear hb); (try clear hb2); (try clear hk); (try clear hi); (try clear ho0)) | ((with_reducible refine gate_dst (N := 1) rfl ?_); (try (refine gate_guard (by rfl) ?_; dsimp only)); refine box_event ?hg (N := 1) ?hd (cs := #[.string (⟨#[]⟩ : ByteArray), .slice none 0 0, .string (⟨#[]⟩ : ByteArray)]) (t := 32) ?hr ?_; (case hd => rfl); (case hg => rfl); (case hr => first | (go_simp; done) | (go_simp; rfl)); intro gb148 hg w15 hbox hb; have n0_ := Aside0.mk (Kd.S_below (by (with_reducible repeat (first | apply Kd.S_alloc | apply Kd.S_drewN | apply Kd.S_drew)); exact HO144.out) hb); have n1_ := Aside0.mk (below_step (by repeat (first | (with_reducible first | exact HB.out | apply below_alloc | apply pw_below_drewN | apply below_drew1) | exact HB.out)) hb); have n2_ := Aside0.mk (hbox); have n3_ := Aside0.mk ((by rw [hg]; exact (below_size (by repeat (first | (with_reducible first | exact HB.out | apply below_alloc | apply pw_below_drewN | apply below_drew1) | exact HB.out))) : w.heap.size ≤ gb148)); have n4_ := Aside0.mk ((by rw [hg]; exact (below_size (by repeat (first | (with_reducible first | exact HB.out | apply below_alloc | apply pw_below_drewN | apply below_drew1) | exact HB.out))) : w.heap.size ≤ gb148)); clear HO144; clear HB; have HO144 := n0_; have HB := n1_; have BK148 := n2_; have GW148 := n3_; have GE148 := n4_; clear n0_ n1_ n2_ n3_ n4_; clear hb hbox hg; have hcz16_0 : w15.cell? ⟨gb148, 0, none⟩ = some (.string (⟨#[]⟩ : ByteArray)) := (blk_cell BK148.out 0).trans rfl; have hcz16_1 : w15.cell? ⟨gb148, 1, none⟩ = some (.slice none 0 0) := (blk_cell BK148.out 1).trans rfl; have hcz16_2 : w15.cell? ⟨gb148, 2, none⟩ = some (.string (⟨#[]⟩ : ByteArray)) := (blk_cell BK148.out 2).trans rfl; have hfz16_0 := blk_frozen BK148.out 0; have hfz16_1 := blk_frozen BK148.out 1; have hfz16_2 := blk_frozen BK148.out 2; obtain ⟨Ao17, co17, eo17⟩ := Kd.S_slice HO144.out; subst eo17))
    go_ret
    exact ⟨by first | rfl | (simp [errW_none, errW_some] <;> rfl) | (simp [*, errW_none, errW_some] <;> rfl), by repeat (first | (with_reducible first | exact HB.out | apply below_alloc | apply pw_below_drewN | apply below_drew1 | refine below_set ?_ GE148.out) | exact HB.out)⟩
  ·rw [if_neg c3] at H
   have c3b0 : (t146 == 0) = false := beq_eq_false_iff_ne.mpr c3
   have c3b1 : (t146 != 0) = true := bne_iff_ne.mpr c3
   obtain rfl := Option.some.inj H
   go_enter Tryz.func6, Tryz.ntmps6
   go_wp2_with (first | ((with_reducible refine gate_callee (f := 15) rfl ?_); refine goesL_ (some 5) rfl rfl Tryz.func15 (by kernel_rfl) rfl #[.string (⟨#[97, 59, 98, 61, 99, 58, 100]⟩ : ByteArray)] rfl (by (try simp only [List.map_toArray, List.map_cons, List.map_nil]); first | done | rfl | (simp only [List.length_drop, List.length_take]; rfl)) ?_; (with_reducible refine (line_Parse.calls k (⟨#[97, 59, 98, 61, 99, 58, 100]⟩ : ByteArray) t141 t142 t145 t146 t147 _ (by first | (with_reducible exact hG) | exact GG.below hG (by repeat (first | (with_reducible first | exact HB.out | apply below_alloc | apply pw_below_drewN | apply below_drew1) | exact HB.out))) A1.out).mono ?_); rintro e w18 ⟨v143, rfl, ho0, hb⟩; refine ⟨_, rfl, ?_⟩; have n0_ := Aside0.mk (Kd.S_lower ho0 (below_size (by repeat (first | (with_reducible first | exact HB.out | apply below_alloc | apply pw_below_drewN | apply below_drew1) | exact HB.out)))); have n1_ := Aside0.mk (below_step (by repeat (first | (with_reducible first | exact HB.out | apply below_alloc | apply pw_below_drewN | apply below_drew1) | exact HB.out)) hb); clear HB; have HO144 := n0_; have HB := n1_; clear n0_ n1_; (try clear hb); (try clear hb2); (try clear hk); (try clear hi); (try clear ho0)) | ((with_reducible refine gate_dst (N := 1) rfl ?_); (try (refine gate_guard (by rfl) ?_; dsimp only)); refine box_event ?hg (N := 1) ?hd (cs := #[.string (⟨#[]⟩ : ByteArray), .slice none 0 0, .string (⟨#[]⟩ : ByteArray)]) (t := 32) ?hr ?_; (case hd => rfl); (case hg => rfl); (case hr => first | (go_simp; done) | (go_simp; rfl)); intro gb148 hg w19 hbox hb; have n0_ := Aside0.mk (Kd.S_below (by (with_reducible repeat (first | apply Kd.S_alloc | apply Kd.S_drewN | apply Kd.S_drew)); exact HO144.out) hb); have n1_ := Aside0.mk (below_step (by repeat (first | (with_reducible first | exact HB.out | apply below_alloc | apply pw_below_drewN | apply below_drew1) | exact HB.out)) hb); have n2_ := Aside0.mk (hbox); have n3_ := Aside0.mk ((by rw [hg]; exact (below_size (by repeat (first | (with_reducible first | exact HB.out | apply below_alloc | apply pw_below_drewN | apply below_drew1) | exact HB.out))) : w.heap.size ≤ gb148)); have n4_ := Aside0.mk ((by rw [hg]; exact (below_size (by repeat (first | (with_reducible first | exact HB.out | apply below_alloc | apply pw_below_drewN | apply below_drew1) | exact HB.out))) : w.heap.size ≤ gb148)); clear HO144; clear HB; have HO144 := n0_; have HB := n1_; have BK148 := n2_; have GW148 := n3_; have GE148 := n4_; clear n0_ n1_ n2_ n3_ n4_; clear hb hbox hg; have hcz20_0 : w19.cell? ⟨gb148, 0, none⟩ = some (.string (⟨#[]⟩ : ByteArray)) := (blk_cell BK148.out 0).trans rfl; have hcz20_1 : w19.cell? ⟨gb148, 1, none⟩ = some (.slice none 0 0) := (blk_cell BK148.out 1).trans rfl; have hcz20_2 : w19.cell? ⟨gb148, 2, none⟩ = some (.string (⟨#[]⟩ : ByteArray)) := (blk_cell BK148.out 2).trans rfl; have hfz20_0 := blk_frozen BK148.out 0; have hfz20_1 := blk_frozen BK148.out 1; have hfz20_2 := blk_frozen BK148.out 2; obtain ⟨Ao21, co21, eo21⟩ := Kd.S_slice HO144.out; subst eo21))
   go_ret
   exact ⟨by first | rfl | (simp [errW_none, errW_some] <;> rfl) | (simp [*, errW_none, errW_some] <;> rfl), by repeat (first | (with_reducible first | exact HB.out | apply below_alloc | apply pw_below_drewN | apply below_drew1 | refine below_set ?_ GE148.out) | exact HB.out)⟩
 ·rw [if_neg c2] at H
  have c2b0 : (t147 == 0) = false := beq_eq_false_iff_ne.mpr c2
  have c2b1 : (t147 != 0) = true := bne_iff_ne.mpr c2
  obtain rfl := Option.some.inj H
  go_enter Tryz.func6, Tryz.ntmps6
  go_wp2_with (first | ((with_reducible refine gate_callee (f := 15) rfl ?_); refine goesL_ (some 5) rfl rfl Tryz.func15 (by kernel_rfl) rfl #[.string (⟨#[97, 59, 98, 61, 99, 58, 100]⟩ : ByteArray)] rfl (by (try simp only [List.map_toArray, List.map_cons, List.map_nil]); first | done | rfl | (simp only [List.length_drop, List.length_take]; rfl)) ?_; (with_reducible refine (line_Parse.calls k (⟨#[97, 59, 98, 61, 99, 58, 100]⟩ : ByteArray) t141 t142 t145 t146 t147 _ (by first | (with_reducible exact hG) | exact GG.below hG (by repeat (first | (with_reducible first | exact HB.out | apply below_alloc | apply pw_below_drewN | apply below_drew1) | exact HB.out))) A1.out).mono ?_); rintro e w22 ⟨v143, rfl, ho0, hb⟩; refine ⟨_, rfl, ?_⟩; have n0_ := Aside0.mk (Kd.S_lower ho0 (below_size (by repeat (first | (with_reducible first | exact HB.out | apply below_alloc | apply pw_below_drewN | apply below_drew1) | exact HB.out)))); have n1_ := Aside0.mk (below_step (by repeat (first | (with_reducible first | exact HB.out | apply below_alloc | apply pw_below_drewN | apply below_drew1) | exact HB.out)) hb); clear HB; have HO144 := n0_; have HB := n1_; clear n0_ n1_; (try clear hb); (try clear hb2); (try clear hk); (try clear hi); (try clear ho0)) | ((with_reducible refine gate_dst (N := 1) rfl ?_); (try (refine gate_guard (by rfl) ?_; dsimp only)); refine box_event ?hg (N := 1) ?hd (cs := #[.string (⟨#[]⟩ : ByteArray), .slice none 0 0, .string (⟨#[]⟩ : ByteArray)]) (t := 32) ?hr ?_; (case hd => rfl); (case hg => rfl); (case hr => first | (go_simp; done) | (go_simp; rfl)); intro gb148 hg w23 hbox hb; have n0_ := Aside0.mk (Kd.S_below (by (with_reducible repeat (first | apply Kd.S_alloc | apply Kd.S_drewN | apply Kd.S_drew)); exact HO144.out) hb); have n1_ := Aside0.mk (below_step (by repeat (first | (with_reducible first | exact HB.out | apply below_alloc | apply pw_below_drewN | apply below_drew1) | exact HB.out)) hb); have n2_ := Aside0.mk (hbox); have n3_ := Aside0.mk ((by rw [hg]; exact (below_size (by repeat (first | (with_reducible first | exact HB.out | apply below_alloc | apply pw_below_drewN | apply below_drew1) | exact HB.out))) : w.heap.size ≤ gb148)); have n4_ := Aside0.mk ((by rw [hg]; exact (below_size (by repeat (first | (with_reducible first | exact HB.out | apply below_alloc | apply pw_below_drewN | apply below_drew1) | exact HB.out))) : w.heap.size ≤ gb148)); clear HO144; clear HB; have HO144 := n0_; have HB := n1_; have BK148 := n2_; have GW148 := n3_; have GE148 := n4_; clear n0_ n1_ n2_ n3_ n4_; clear hb hbox hg; have hcz24_0 : w23.cell? ⟨gb148, 0, none⟩ = some (.string (⟨#[]⟩ : ByteArray)) := (blk_cell BK148.out 0).trans rfl; have hcz24_1 : w23.cell? ⟨gb148, 1, none⟩ = some (.slice none 0 0) := (blk_cell BK148.out 1).trans rfl; have hcz24_2 : w23.cell? ⟨gb148, 2, none⟩ = some (.string (⟨#[]⟩ : ByteArray)) := (blk_cell BK148.out 2).trans rfl; have hfz24_0 := blk_frozen BK148.out 0; have hfz24_1 := blk_frozen BK148.out 1; have hfz24_2 := blk_frozen BK148.out 2; obtain ⟨Ao25, co25, eo25⟩ := Kd.S_slice HO144.out; subst eo25))
  go_ret
  exact ⟨by first | rfl | (simp [errW_none, errW_some] <;> rfl) | (simp [*, errW_none, errW_some] <;> rfl), by repeat (first | (with_reducible first | exact HB.out | apply below_alloc | apply pw_below_drewN | apply below_drew1 | refine below_set ?_ GE148.out) | exact HB.out)⟩
mutual
def trystlaw10_Few.l0 : Nat → Int → Int → Int → ByteArray → List (S44) → ByteArray → Option (Bool)
 | 0, _, _, _, _, _, _ => none
 | k + 1, x3, x15, x16, x150000, x150001, x150002 => if x16 < x15 then (if 0 ≤ x16 then (if x16 < (x150001.length : Int) then (trystlaw10_Few.l1 k (wrap64 ((wrap64 (x3 + (((rd_T44 x150001 x16).f0).size : Int))) + 1)) x16 x15 x16 (((rd_T44 x150001 x16).f1).length : Int) 0 x150000 x150001 x150002) else (none)) else (none)) else (some (decide (x3 ≤ 5000)))
def trystlaw10_Few.l1 : Nat → Int → Int → Int → Int → Int → Int → ByteArray → List (S44) → ByteArray → Option (Bool)
 | 0, _, _, _, _, _, _, _, _, _ => none
 | k + 1, x3, x4, x15, x16, x35, x36, x150000, x150001, x150002 => if x36 < x35 then (if 0 ≤ x4 then (if x4 < (x150001.length : Int) then (if 0 ≤ x36 then (if x36 < (((rd_T44 x150001 x4).f1).length : Int) then (trystlaw10_Few.l1 k (wrap64 ((wrap64 (x3 + ((rdOf ByteArray.empty ((rd_T44 x150001 x4).f1) x36).size : Int))) + 1)) x4 x15 x16 x35 (wrap64 (x36 + 1)) x150000 x150001 x150002) else (none)) else (none)) else (none)) else (none)) else (if x3 > 5000 then (some false) else (trystlaw10_Few.l0 k x3 x15 (wrap64 (x16 + 1)) x150000 x150001 x150002))
end
def trystlaw10_Few.f (k : Nat) (a0_0 : ByteArray) (l0_1 : List (S44)) (a0_2 : ByteArray) : Option (Bool) := trystlaw10_Few.l0 k (wrap64 ((a0_0.size : Int) + (a0_2.size : Int))) (l0_1.length : Int) 0 a0_0 l0_1 a0_2
set_option maxHeartbeats 8000000 in
set_option maxRecDepth 100000 in
theorem trystlaw10_Few.calls (k : Nat) (a0_0 : ByteArray) (A0_1 : Option Addr) (c0_1 : Nat) (l0_1 : List (S44)) (a0_2 : ByteArray) (r : Bool) (w : World) (hG : GG w) (hr0_1 : Kd.C k44 w A0_1 l0_1.length l0_1) (hc0_1 : l0_1.length ≤ c0_1) (h : trystlaw10_Few.f k a0_0 l0_1 a0_2 = some r) :
  Calls Tryz.prog 7 #[.agg #[.string a0_0, .slice A0_1 l0_1.length c0_1, .string a0_2]] w fun e w' => e = .returned (.bool r) ∧ Below w.heap.size w w' := by
 have hu24 := Tryz.underlying24
 have HR0_1 := Aside0.mk hr0_1
 have HC0_1 := Aside0.mk hc0_1
 clear hr0_1 hc0_1
 have HB := Aside0.mk (Below.refl w.heap.size w)
 have H : (trystlaw10_Few.l0 k (wrap64 ((a0_0.size : Int) + (a0_2.size : Int))) (l0_1.length : Int) 0 a0_0 l0_1 a0_2) = some r := h
 clear h
 have H' := Aside0.mk H
 clear H
 go_enter Tryz.func7, Tryz.ntmps7
 go_wp2_with (first | ((with_reducible refine gate_dst (N := 1) rfl ?_); refine box_event ?hg (N := 1) ?hd (cs := #[.string a0_0, .slice A0_1 l0_1.length c0_1, .string a0_2]) (t := 24) ?hr ?_; (case hd => rfl); (case hg => rfl); (case hr => first | (go_simp; done) | (go_simp; rfl)); intro gb149 hg w2 hbox hb; have n0_ := Aside0.mk (below_step (by repeat (first | (with_reducible first | exact HB.out | apply below_alloc | apply pw_below_drewN | apply below_drew1) | exact HB.out)) hb); have n1_ := Aside0.mk (hbox); have n2_ := Aside0.mk ((by rw [hg]; exact (below_size (by repeat (first | (with_reducible first | exact HB.out | apply below_alloc | apply pw_below_drewN | apply below_drew1) | exact HB.out))) : w.heap.size ≤ gb149)); have n3_ := Aside0.mk ((by rw [hg]; exact (below_size (by repeat (first | (with_reducible first | exact HB.out | apply below_alloc | apply pw_below_drewN | apply below_drew1) | exact HB.out))) : w.heap.size ≤ gb149)); clear HB; have HB := n0_; have BK149 := n1_; have GW149 := n2_; have GE149 := n3_; clear n0_ n1_ n2_ n3_; clear hb hbox hg; have hcz3_0 : w2.cell? ⟨gb149, 0, none⟩ = some (.string a0_0) := (blk_cell BK149.out 0).trans rfl; have hcz3_1 : w2.cell? ⟨gb149, 1, none⟩ = some (.slice A0_1 l0_1.length c0_1) := (blk_cell BK149.out 1).trans rfl; have hcz3_2 : w2.cell? ⟨gb149, 2, none⟩ = some (.string a0_2) := (blk_cell BK149.out 2).trans rfl; have hfz3_0 := blk_frozen BK149.out 0; have hfz3_1 := blk_frozen BK149.out 1; have hfz3_2 := blk_frozen BK149.out 2))
 go_loopg [3, 16] k (fun kq v3 v16 w' => ∃ (x3_1 : Int) (x16_1 : Int), v3 = .int .i64 x3_1 ∧ v16 = .int .i64 x16_1 ∧ Aside0 (trystlaw10_Few.l0 kq x3_1 (l0_1.length : Int) x16_1 a0_0 l0_1 a0_2 = some r) ∧ Aside0 (kq ≤ k) ∧ Aside0 (w'.heap[gb149]? = some (.cells #[.string a0_0, (.slice A0_1 l0_1.length c0_1), .string a0_2] 24 (0, 0))) ∧ Aside0 (Below w.heap.size w w'))
 case atStart => exact ⟨(wrap64 ((a0_0.size : Int) + (a0_2.size : Int))), (0), (by first | rfl | (simp; done) | (simp [bne_nil_isEmpty, beq_nil_isEmpty]; done) | (simp [*]; done)), (by first | rfl | (simp; done) | (simp [bne_nil_isEmpty, beq_nil_isEmpty]; done) | (simp [*]; done)), H', ⟨Nat.le_refl _⟩, ⟨by (with_reducible repeat (first | refine blk_drewN ?_ _ | refine blk_drew ?_ | refine blk_alloc ?_ _)); exact BK149.out⟩, ⟨by repeat (first | (with_reducible first | exact HB.out | apply below_alloc | apply pw_below_drewN | apply below_drew1 | refine below_set ?_ GE149.out) | exact HB.out)⟩⟩
 case round =>
  clear H'
  try clear p2
  try clear hcz3_0
  try clear hcz3_1
  try clear hcz3_2
  try clear hfz3_0
  try clear hfz3_1
  try clear hfz3_2
  obtain ⟨x3_1, x16_1, rfl, rfl, HA, HK1, BK149, HB⟩ := hrel
  cases gk with
  | zero => exact absurd HA.out (by simp [trystlaw10_Few.l0])
  | succ k1 =>
   have H := HA.out
   clear HA
   simp only [trystlaw10_Few.l0] at H
   by_cases c4 : x16_1 < (l0_1.length : Int)
   ·rw [if_pos c4] at H
    have c4b0 : decide (x16_1 < (l0_1.length : Int)) = true := decide_eq_true c4
    clear c4
    by_cases c5 : 0 ≤ x16_1
    ·rw [if_pos c5] at H
     have c5b0 : decide (0 ≤ x16_1) = true := decide_eq_true c5
     clear c5
     by_cases c6 : x16_1 < (l0_1.length : Int)
     ·rw [if_pos c6] at H
      have c6b0 : decide (x16_1 < (l0_1.length : Int)) = true := decide_eq_true c6
      clear c6
      have H' := Aside0.mk H
      clear H
      have hcz7_0 : wr.cell? ⟨gb149, 0, none⟩ = some (.string a0_0) := (blk_cell BK149.out 0).trans rfl
      have hcz7_1 : wr.cell? ⟨gb149, 1, none⟩ = some (.slice A0_1 l0_1.length c0_1) := (blk_cell BK149.out 1).trans rfl
      have hcz7_2 : wr.cell? ⟨gb149, 2, none⟩ = some (.string a0_2) := (blk_cell BK149.out 2).trans rfl
      have hfz7_0 := blk_frozen BK149.out 0
      have hfz7_1 := blk_frozen BK149.out 1
      have hfz7_2 := blk_frozen BK149.out 2
      have p150 : 0 ≤ (x16_1 : Int) := of_decide_eq_true (by first | (with_reducible assumption) | assumption)
      have q150 : x16_1 < (l0_1.length : Int) := of_decide_eq_true (by first | (with_reducible assumption) | assumption)
      obtain ⟨ad150, A150_1, c150_1, e150, hx150_0, hx150_1, hl150_1, hi150_1⟩ := at_T44 HR0_1.out x16_1 p150 q150
      cases e150
      replace hx150_0 := (HB.out.cell (World.block_lt_of_cell? w _ hx150_0)).trans hx150_0
      replace hx150_1 := (HB.out.cell (World.block_lt_of_cell? w _ hx150_1)).trans hx150_1
      have HR150_1 := Aside0.mk hi150_1
      have HC150_1 := Aside0.mk hl150_1
      clear hi150_1 hl150_1
      replace p150 := eq_true p150
      replace q150 := eq_true q150
      have p151 : 0 ≤ (x16_1 : Int) := of_decide_eq_true (by first | (with_reducible assumption) | assumption)
      have q151 : x16_1 < (l0_1.length : Int) := of_decide_eq_true (by first | (with_reducible assumption) | assumption)
      obtain ⟨ad151, A151_1, c151_1, e151, hx151_0, hx151_1, hl151_1, hi151_1⟩ := at_T44 HR0_1.out x16_1 p151 q151
      obtain rfl : ad150 = ad151 := (by injection e151)
      replace hx151_0 := (HB.out.cell (World.block_lt_of_cell? w _ hx151_0)).trans hx151_0
      replace hx151_1 := (HB.out.cell (World.block_lt_of_cell? w _ hx151_1)).trans hx151_1
      have HR151_1 := Aside0.mk hi151_1
      have HC151_1 := Aside0.mk hl151_1
      clear hi151_1 hl151_1
      replace p151 := eq_true p151
      replace q151 := eq_true q151
      have ea_ := Option.some.inj (hx150_1.symm.trans hx151_1)
      injection ea_ with ea_ en_ ec_
      subst ea_
      subst ec_
      clear en_
      go_wp2
      go_loopg [3, 36] k1 (fun kq v3 v36 w' => ∃ (x3_2 : Int) (x36_2 : Int), v3 = .int .i64 x3_2 ∧ v36 = .int .i64 x36_2 ∧ Aside0 (trystlaw10_Few.l1 kq x3_2 x16_1 (l0_1.length : Int) x16_1 (((rd_T44 l0_1 x16_1).f1).length : Int) x36_2 a0_0 l0_1 a0_2 = some r) ∧ Aside0 (kq ≤ k1) ∧ Aside0 (w'.heap[gb149]? = some (.cells #[.string a0_0, (.slice (some ad150) l0_1.length c0_1), .string a0_2] 24 (0, 0))) ∧ Aside0 (Below w.heap.size w w'))
      case atStart => exact ⟨(wrap64 ((wrap64 (x3_1 + (((rd_T44 l0_1 x16_1).f0).size : Int))) + 1)), (0), (by first | rfl | (simp; done) | (simp [bne_nil_isEmpty, beq_nil_isEmpty]; done) | (simp [*]; done)), (by first | rfl | (simp; done) | (simp [bne_nil_isEmpty, beq_nil_isEmpty]; done) | (simp [*]; done)), H', ⟨Nat.le_refl _⟩, ⟨by (with_reducible repeat (first | refine blk_drewN ?_ _ | refine blk_drew ?_ | refine blk_alloc ?_ _)); exact BK149.out⟩, ⟨by repeat (first | (with_reducible first | exact HB.out | apply below_alloc | apply pw_below_drewN | apply below_drew1 | refine below_set ?_ GE149.out) | exact HB.out)⟩⟩
      case round =>
       clear H'
       try clear c1
       try clear p1
       try clear q1
       try clear hx1
       try clear p2
       try clear c4
       try clear c4b0
       try clear c5
       try clear c5b0
       try clear c6
       try clear c6b0
       try clear p6
       try clear c7
       try clear hcz3_0
       try clear hcz3_1
       try clear hcz3_2
       try clear hcz7_0
       try clear hcz7_1
       try clear hcz7_2
       try clear hfz3_0
       try clear hfz3_1
       try clear hfz3_2
       try clear hfz7_0
       try clear hfz7_1
       try clear hfz7_2
       try clear hx150_0
       try clear hx150_1
       try clear hx151_0
       try clear hx151_1
       try clear p150
       try clear p151
       try clear p2
       try clear q150
       try clear q151
       obtain ⟨x3_2, x36_2, rfl, rfl, HA, HK2, BK149, HB⟩ := hrel
       cases gk with
       | zero => exact absurd HA.out (by simp [trystlaw10_Few.l1])
       | succ k2 =>
        have H := HA.out
        clear HA
        simp only [trystlaw10_Few.l1] at H
        by_cases c8 : x36_2 < (((rd_T44 l0_1 x16_1).f1).length : Int)
        ·rw [if_pos c8] at H
         have c8b0 : decide (x36_2 < (((rd_T44 l0_1 x16_1).f1).length : Int)) = true := decide_eq_true c8
         clear c8
         by_cases c9 : 0 ≤ x16_1
         ·rw [if_pos c9] at H
          have c9b0 : decide (0 ≤ x16_1) = true := decide_eq_true c9
          clear c9
          by_cases c10 : x16_1 < (l0_1.length : Int)
          ·rw [if_pos c10] at H
           have c10b0 : decide (x16_1 < (l0_1.length : Int)) = true := decide_eq_true c10
           clear c10
           by_cases c11 : 0 ≤ x36_2
           ·rw [if_pos c11] at H
            have c11b0 : decide (0 ≤ x36_2) = true := decide_eq_true c11
            clear c11
            by_cases c12 : x36_2 < (((rd_T44 l0_1 x16_1).f1).length : Int)
            ·rw [if_pos c12] at H
             have c12b0 : decide (x36_2 < (((rd_T44 l0_1 x16_1).f1).length : Int)) = true := decide_eq_true c12
             clear c12
             have H' := Aside0.mk H
             clear H
             have hcz13_0 : wr.cell? ⟨gb149, 0, none⟩ = some (.string a0_0) := (blk_cell BK149.out 0).trans rfl
             have hcz13_1 : wr.cell? ⟨gb149, 1, none⟩ = some (.slice (some ad150) l0_1.length c0_1) := (blk_cell BK149.out 1).trans rfl
             have hcz13_2 : wr.cell? ⟨gb149, 2, none⟩ = some (.string a0_2) := (blk_cell BK149.out 2).trans rfl
             have hfz13_0 := blk_frozen BK149.out 0
             have hfz13_1 := blk_frozen BK149.out 1
             have hfz13_2 := blk_frozen BK149.out 2
             have p152 : 0 ≤ (x16_1 : Int) := of_decide_eq_true (by first | (with_reducible assumption) | assumption)
             have q152 : x16_1 < (l0_1.length : Int) := of_decide_eq_true (by first | (with_reducible assumption) | assumption)
             obtain ⟨ad152, A152_1, c152_1, e152, hx152_0, hx152_1, hl152_1, hi152_1⟩ := at_T44 HR0_1.out x16_1 p152 q152
             obtain rfl : ad150 = ad152 := (by injection e152)
             replace hx152_0 := (HB.out.cell (World.block_lt_of_cell? w _ hx152_0)).trans hx152_0
             replace hx152_1 := (HB.out.cell (World.block_lt_of_cell? w _ hx152_1)).trans hx152_1
             have HR152_1 := Aside0.mk hi152_1
             have HC152_1 := Aside0.mk hl152_1
             clear hi152_1 hl152_1
             replace p152 := eq_true p152
             replace q152 := eq_true q152
             have p153 : 0 ≤ (x36_2 : Int) := of_decide_eq_true (by first | (with_reducible assumption) | assumption)
             have q153 : x36_2 < (((rd_T44 l0_1 x16_1).f1).length : Int) := of_decide_eq_true (by first | (with_reducible assumption) | assumption)
             obtain ⟨ad153, e153, hx153_0⟩ := Kd.at_string HR152_1.out x36_2 p153 q153
             cases e153
             replace hx153_0 := (HB.out.cell (World.block_lt_of_cell? w _ hx153_0)).trans hx153_0
             replace p153 := eq_true p153
             replace q153 := eq_true q153
             go_wp2
             go_roundg k2
             case measure => have := HK1.out; have := HK2.out; omega
             case rel => exact ⟨(wrap64 ((wrap64 (x3_2 + ((rdOf ByteArray.empty ((rd_T44 l0_1 x16_1).f1) x36_2).size : Int))) + 1)), (wrap64 (x36_2 + 1)), (by first | rfl | (simp; done) | (simp [bne_nil_isEmpty, beq_nil_isEmpty]; done) | (simp [*]; done)), (by first | rfl | (simp; done) | (simp [bne_nil_isEmpty, beq_nil_isEmpty]; done) | (simp [*]; done)), H', ⟨by have := HK1.out; have := HK2.out; omega⟩, ⟨by (with_reducible repeat (first | refine blk_drewN ?_ _ | refine blk_drew ?_ | refine blk_alloc ?_ _)); exact BK149.out⟩, ⟨by repeat (first | (with_reducible first | exact HB.out | apply below_alloc | apply pw_below_drewN | apply below_drew1 | refine below_set ?_ GE149.out) | exact HB.out)⟩⟩
            ·rw [if_neg c12] at H
             exact absurd H (by simp)
           ·rw [if_neg c11] at H
            exact absurd H (by simp)
          ·rw [if_neg c10] at H
           exact absurd H (by simp)
         ·rw [if_neg c9] at H
          exact absurd H (by simp)
        ·rw [if_neg c8] at H
         have c8b0 : decide (x36_2 < (((rd_T44 l0_1 x16_1).f1).length : Int)) = false := decide_eq_false c8
         clear c8
         by_cases c14 : x3_2 > 5000
         ·rw [if_pos c14] at H
          have c14b0 : decide (5000 < x3_2) = true := decide_eq_true c14
          clear c14
          obtain rfl := Option.some.inj H
          go_wp2
          go_ret
          exact ⟨by first | rfl | (simp [errW_none, errW_some] <;> rfl) | (simp [*, errW_none, errW_some] <;> rfl), by repeat (first | (with_reducible first | exact HB.out | apply below_alloc | apply pw_below_drewN | apply below_drew1 | refine below_set ?_ GE149.out) | exact HB.out)⟩
         ·rw [if_neg c14] at H
          have c14b0 : decide (5000 < x3_2) = false := decide_eq_false c14
          clear c14
          have H' := Aside0.mk H
          clear H
          go_wp2
          go_roundg k2
          case measure => have := HK1.out; have := HK2.out; omega
          case rel => exact ⟨(x3_2), (wrap64 (x16_1 + 1)), (by first | rfl | (simp; done) | (simp [bne_nil_isEmpty, beq_nil_isEmpty]; done) | (simp [*]; done)), (by first | rfl | (simp; done) | (simp [bne_nil_isEmpty, beq_nil_isEmpty]; done) | (simp [*]; done)), H', ⟨by have := HK1.out; have := HK2.out; omega⟩, ⟨by (with_reducible repeat (first | refine blk_drewN ?_ _ | refine blk_drew ?_ | refine blk_alloc ?_ _)); exact BK149.out⟩, ⟨by repeat (first | (with_reducible first | exact HB.out | apply below_alloc | apply pw_below_drewN | apply below_drew1 | refine below_set ?_ GE149.out) | exact HB.out)⟩⟩
     ·rw [if_neg c6] at H
      exact absurd H (by simp)
    ·rw [if_neg c5] at H
     exact absurd H (by simp)
   ·rw [if_neg c4] at H
    have c4b0 : decide (x16_1 < (l0_1.length : Int)) = false := decide_eq_false c4
    clear c4
    obtain rfl := Option.some.inj H
    go_wp2
    go_ret
    exact ⟨by first | rfl | (simp [errW_none, errW_some] <;> rfl) | (simp [*, errW_none, errW_some] <;> rfl), by repeat (first | (with_reducible first | exact HB.out | apply below_alloc | apply pw_below_drewN | apply below_drew1 | refine below_set ?_ GE149.out) | exact HB.out)⟩
def line_Name.l0 : Nat → ByteArray → Int → Int → Option (Bool)
 | 0, _, _, _ => none
 | k + 1, x0, x5, x6 => if x6 < x5 then (if 0 ≤ x6 then (if x6 < (x0.size : Int) then ((line_sign.f (bt x0 x6) true).bind fun t154 => (if t154 = true then (line_Name.l0 k x0 x5 (wrap64 (x6 + 1))) else (some false))) else (none)) else (none)) else (if (x0.size : Int) ≥ 1 then (some (decide ((x0.size : Int) ≤ 60))) else (some false))
def line_Name.f (k : Nat) (a0 : ByteArray) : Option (Bool) := line_Name.l0 k a0 (a0.size : Int) 0
set_option maxHeartbeats 8000000 in
set_option maxRecDepth 100000 in
theorem line_Name.calls (k : Nat) (a0 : ByteArray) (r : Bool) (w : World) (hG : GG w) (h : line_Name.f k a0 = some r) :
  Calls Tryz.prog 13 #[.string a0] w fun e w' => e = .returned (.bool r) ∧ Drawn0 w w' := by
 have H : (line_Name.l0 k a0 (a0.size : Int) 0) = some r := h
 clear h
 have H' := Aside0.mk H
 clear H
 go_enter Tryz.func13, Tryz.ntmps13
 go_wp2
 go_loopg [6] k (fun kq v6 w' => ∃ (x6_1 : Int), v6 = .int .i64 x6_1 ∧ Aside0 (line_Name.l0 kq a0 (a0.size : Int) x6_1 = some r) ∧ Aside0 (kq ≤ k) ∧ Drawn0 w w')
 case atStart => exact ⟨(0), (by first | rfl | (simp; done) | (simp [bne_nil_isEmpty, beq_nil_isEmpty]; done) | (simp [*]; done)), H', ⟨Nat.le_refl _⟩, by repeat (first | exact Drawn0.refl _ | apply Drawn0.step)⟩
 case round =>
  clear H'
  try clear c1
  obtain ⟨x6_1, rfl, HA, HK1, ⟨m1, rfl⟩⟩ := hrel
  cases gk with
  | zero => exact absurd HA.out (by simp [line_Name.l0])
  | succ k1 =>
   have H := HA.out
   clear HA
   simp only [line_Name.l0] at H
   by_cases c2 : x6_1 < (a0.size : Int)
   ·rw [if_pos c2] at H
    have c2b0 : decide (x6_1 < (a0.size : Int)) = true := decide_eq_true c2
    clear c2
    by_cases c3 : 0 ≤ x6_1
    ·rw [if_pos c3] at H
     have c3b0 : decide (0 ≤ x6_1) = true := decide_eq_true c3
     clear c3
     by_cases c4 : x6_1 < (a0.size : Int)
     ·rw [if_pos c4] at H
      have c4b0 : decide (x6_1 < (a0.size : Int)) = true := decide_eq_true c4
      clear c4
      replace H := Option.bind_eq_some_iff.mp H
      obtain ⟨t154, A60, H⟩ := H
      replace H : (if t154 = true then (line_Name.l0 k1 a0 (a0.size : Int) (wrap64 (x6_1 + 1))) else (some false)) = some r := H
      have A6 := Aside0.mk A60
      clear A60
      by_cases c7 : t154 = true
      ·subst c7
       rw [if_pos rfl] at H
       have H' := Aside0.mk H
       clear H
       have p5 : 0 ≤ (x6_1 : Int) := of_decide_eq_true (by first | (with_reducible assumption) | assumption)
       have q5 : x6_1 < (a0.size : Int) := of_decide_eq_true (by first | (with_reducible assumption) | assumption)
       have hx5 := bt_at a0 x6_1
       replace p5 := eq_true p5
       replace q5 := eq_true q5
       go_wp2_with (first | ((with_reducible refine gate_callee (f := 29) rfl ?_); refine goesL_ (some 12) rfl rfl Tryz.func29 (by kernel_rfl) rfl #[.int .u8 (bt a0 x6_1), .bool true] rfl (by (try simp only [List.map_toArray, List.map_cons, List.map_nil]); first | done | rfl | (simp only [List.length_drop, List.length_take]; rfl)) ?_; (with_reducible refine (line_sign.calls (bt a0 x6_1) true true _ (by repeat (first | (with_reducible exact hG) | apply GG.drewN | apply GG.drew)) A6.out).mono ?_); rintro e w' ⟨rfl, ⟨nd, rfl⟩⟩; refine ⟨_, rfl, ?_⟩))
       go_roundg k1
       case measure => have := HK1.out; omega
       case rel => exact ⟨(wrap64 (x6_1 + 1)), (by first | rfl | (simp; done) | (simp [bne_nil_isEmpty, beq_nil_isEmpty]; done) | (simp [*]; done)), H', ⟨by have := HK1.out; omega⟩, by repeat (first | exact Drawn0.refl _ | apply Drawn0.step)⟩
      ·replace c7 := Bool.eq_false_iff.mpr c7
       subst c7
       rw [if_neg (show ¬ (false = true) by decide)] at H
       obtain rfl := Option.some.inj H
       have p5 : 0 ≤ (x6_1 : Int) := of_decide_eq_true (by first | (with_reducible assumption) | assumption)
       have q5 : x6_1 < (a0.size : Int) := of_decide_eq_true (by first | (with_reducible assumption) | assumption)
       have hx5 := bt_at a0 x6_1
       replace p5 := eq_true p5
       replace q5 := eq_true q5
       go_wp2_with (first | ((with_reducible refine gate_callee (f := 29) rfl ?_); refine goesL_ (some 12) rfl rfl Tryz.func29 (by kernel_rfl) rfl #[.int .u8 (bt a0 x6_1), .bool true] rfl (by (try simp only [List.map_toArray, List.map_cons, List.map_nil]); first | done | rfl | (simp only [List.length_drop, List.length_take]; rfl)) ?_; (with_reducible refine (line_sign.calls (bt a0 x6_1) true false _ (by repeat (first | (with_reducible exact hG) | apply GG.drewN | apply GG.drew)) A6.out).mono ?_); rintro e w' ⟨rfl, ⟨nd, rfl⟩⟩; refine ⟨_, rfl, ?_⟩))
       go_ret
       exact ⟨by first | rfl | (simp; done) | (simp [bne_nil_isEmpty, beq_nil_isEmpty]; done) | (simp [*]; done), by repeat (first | exact Drawn0.refl _ | apply Drawn0.step)⟩
     ·rw [if_neg c4] at H
      exact absurd H (by simp)
    ·rw [if_neg c3] at H
     exact absurd H (by simp)
   ·rw [if_neg c2] at H
    have c2b0 : decide (x6_1 < (a0.size : Int)) = false := decide_eq_false c2
    clear c2
    by_cases c8 : (a0.size : Int) ≥ 1
    ·rw [if_pos c8] at H
     have c8b0 : decide (1 ≤ (a0.size : Int)) = true := decide_eq_true c8
     have c8b1 : decide (1 ≤ a0.size) = true := decide_eq_true (by omega)
     clear c8
     obtain rfl := Option.some.inj H
     go_wp2
     go_ret
     exact ⟨by first | rfl | (simp; done) | (simp [bne_nil_isEmpty, beq_nil_isEmpty]; done) | (simp [*]; done), by repeat (first | exact Drawn0.refl _ | apply Drawn0.step)⟩
    ·rw [if_neg c8] at H
     have c8b0 : decide (1 ≤ (a0.size : Int)) = false := decide_eq_false c8
     have c8b1 : decide (1 ≤ a0.size) = false := decide_eq_false (by omega)
     clear c8
     obtain rfl := Option.some.inj H
     go_wp2
     go_ret
     exact ⟨by first | rfl | (simp; done) | (simp [bne_nil_isEmpty, beq_nil_isEmpty]; done) | (simp [*]; done), by repeat (first | exact Drawn0.refl _ | apply Drawn0.step)⟩
mutual
def line_Param_formed.j0 : Nat → Bool → ByteArray → List ByteArray → Option (Bool)
 | 0, _, _, _ => none
 | k + 1, x20, x156000, x156001 => if x20 = true then (some false) else (line_Param_formed.l0 k x156001 (x156001.length : Int) 0)
def line_Param_formed.l0 : Nat → List ByteArray → Int → Int → Option (Bool)
 | 0, _, _, _ => none
 | k + 1, x22, x23, x24 => if x24 < x23 then (if 0 ≤ x24 then (if x24 < (x22.length : Int) then ((escape_Clean.f k (rdOf ByteArray.empty x22 x24) true).bind fun t158 => (if t158 = 0 then (line_Param_formed.l0 k x22 x23 (wrap64 (x24 + 1))) else (some false))) else (none)) else (none)) else (some true)
end
def line_Param_formed.f (k : Nat) (a0_0 : ByteArray) (l0_1 : List ByteArray) : Option (Bool) := (line_Name.f k a0_0).bind fun t156 => (if t156 = true then (if (l0_1.length : Int) < 1 then (line_Param_formed.j0 k true a0_0 l0_1) else (line_Param_formed.j0 k (decide ((l0_1.length : Int) > 60)) a0_0 l0_1)) else (line_Param_formed.j0 k true a0_0 l0_1))
set_option maxHeartbeats 8000000 in
set_option maxRecDepth 100000 in
theorem line_Param_formed.calls (k : Nat) (a0_0 : ByteArray) (A0_1 : Option Addr) (c0_1 : Nat) (l0_1 : List ByteArray) (r : Bool) (w : World) (hG : GG w) (hr0_1 : Kd.C Kd.string w A0_1 l0_1.length l0_1) (hc0_1 : l0_1.length ≤ c0_1) (h : line_Param_formed.f k a0_0 l0_1 = some r) :
  Calls Tryz.prog 26 #[.agg #[.string a0_0, .slice A0_1 l0_1.length c0_1]] w fun e w' => e = .returned (.bool r) ∧ Below w.heap.size w w' := by
 have hu53 := Tryz.underlying53
 have HR0_1 := Aside0.mk hr0_1
 have HC0_1 := Aside0.mk hc0_1
 clear hr0_1 hc0_1
 have HB := Aside0.mk (Below.refl w.heap.size w)
 have H : ((line_Name.f k a0_0).bind fun t156 => (if t156 = true then (if (l0_1.length : Int) < 1 then (line_Param_formed.j0 k true a0_0 l0_1) else (line_Param_formed.j0 k (decide ((l0_1.length : Int) > 60)) a0_0 l0_1)) else (line_Param_formed.j0 k true a0_0 l0_1))) = some r := h
 clear h
 have HC2 := Aside0.mk H
 clear H
 go_enter Tryz.func26, Tryz.ntmps26
 go_upto_region 1 with (first | ((with_reducible refine gate_dst (N := 1) rfl ?_); (try (refine gate_guard (by rfl) ?_; dsimp only)); refine box_event ?hg (N := 1) ?hd (cs := #[.string a0_0, .slice A0_1 l0_1.length c0_1]) (t := 53) ?hr ?_; (case hd => rfl); (case hg => rfl); (case hr => first | (go_simp; done) | (go_simp; rfl)); intro gb155 hg w3 hbox hb; have n0_ := Aside0.mk (below_step (by repeat (first | (with_reducible first | exact HB.out | apply below_alloc | apply pw_below_drewN | apply below_drew1) | exact HB.out)) hb); have n1_ := Aside0.mk (hbox); have n2_ := Aside0.mk ((by rw [hg]; exact (below_size (by repeat (first | (with_reducible first | exact HB.out | apply below_alloc | apply pw_below_drewN | apply below_drew1) | exact HB.out))) : w.heap.size ≤ gb155)); have n3_ := Aside0.mk ((by rw [hg]; exact (below_size (by repeat (first | (with_reducible first | exact HB.out | apply below_alloc | apply pw_below_drewN | apply below_drew1) | exact HB.out))) : w.heap.size ≤ gb155)); clear HB; have HB := n0_; have BK155 := n1_; have GW155 := n2_; have GE155 := n3_; clear n0_ n1_ n2_ n3_; clear hb hbox hg))
 (try simp only [Act.put, List.setIfInBounds_toArray, List.set_cons_zero, List.set_cons_succ])
 go_cut [20] (fun v20 wc => ∃ (kq : Nat) (x20_1 : Bool), v20 = .bool x20_1 ∧ Aside0 (line_Param_formed.j0 kq x20_1 a0_0 l0_1 = some r) ∧ Aside0 (kq ≤ k) ∧ Aside0 (wc.heap[gb155]? = some (.cells #[.string a0_0, (.slice A0_1 l0_1.length c0_1)] 53 (0, 0))) ∧ Aside0 (Below w.heap.size w wc))
 case first =>
  have H := HC2.out
  clear HC2
  replace H := Option.bind_eq_some_iff.mp H
  obtain ⟨t156, A40, H⟩ := H
  replace H : (if t156 = true then (if (l0_1.length : Int) < 1 then (line_Param_formed.j0 k true a0_0 l0_1) else (line_Param_formed.j0 k (decide ((l0_1.length : Int) > 60)) a0_0 l0_1)) else (line_Param_formed.j0 k true a0_0 l0_1)) = some r := H
  have A4 := Aside0.mk A40
  clear A40
  by_cases c5 : t156 = true
  ·subst c5
   rw [if_pos rfl] at H
   by_cases c6 : (l0_1.length : Int) < 1
   ·rw [if_pos c6] at H
    have c6b0 : decide ((l0_1.length : Int) < 1) = true := decide_eq_true c6
    have c6b1 : decide (l0_1.length < 1) = true := decide_eq_true (by omega)
    clear c6
    (first | rw [c6b0] | (simp only [i64_w, i32_w]; rw [c6b0]) | skip)
    have H' := Aside0.mk H
    clear H
    have hcz7_0 : w3.cell? ⟨gb155, 0, none⟩ = some (.string a0_0) := (blk_cell BK155.out 0).trans rfl
    have hcz7_1 : w3.cell? ⟨gb155, 1, none⟩ = some (.slice A0_1 l0_1.length c0_1) := (blk_cell BK155.out 1).trans rfl
    have hfz7_0 := blk_frozen BK155.out 0
    have hfz7_1 := blk_frozen BK155.out 1
    go_wp2_with (first | ((with_reducible refine gate_callee (f := 13) rfl ?_); refine goesL_ (some 7) rfl rfl Tryz.func13 (by kernel_rfl) rfl #[.string a0_0] rfl (by (try simp only [List.map_toArray, List.map_cons, List.map_nil]); first | done | rfl | (simp only [List.length_drop, List.length_take]; rfl)) ?_; (with_reducible refine (line_Name.calls k a0_0 true _ (by first | (with_reducible exact hG) | exact GG.below hG (by repeat (first | (with_reducible first | exact HB.out | apply below_alloc | apply pw_below_drewN | apply below_drew1 | refine below_set ?_ GE155.out) | exact HB.out))) A4.out).mono ?_); rintro e w' ⟨rfl, ⟨nd, rfl⟩⟩; refine ⟨_, rfl, ?_⟩))
    go_meet
    case rel => exact ⟨_, (true), (by first | rfl | (simp; done) | (simp [bne_nil_isEmpty, beq_nil_isEmpty]; done) | (simp [*]; done)), H', ⟨by first | omega | exact Nat.le_refl _⟩, ⟨by (with_reducible repeat (first | refine blk_drewN ?_ _ | refine blk_drew ?_ | refine blk_alloc ?_ _)); exact BK155.out⟩, ⟨by repeat (first | (with_reducible first | exact HB.out | apply below_alloc | apply pw_below_drewN | apply below_drew1 | refine below_set ?_ GE155.out) | exact HB.out)⟩⟩
   ·rw [if_neg c6] at H
    have c6b0 : decide ((l0_1.length : Int) < 1) = false := decide_eq_false c6
    have c6b1 : decide (l0_1.length < 1) = false := decide_eq_false (by omega)
    clear c6
    (first | rw [c6b0] | (simp only [i64_w, i32_w]; rw [c6b0]) | skip)
    have H' := Aside0.mk H
    clear H
    have hcz8_0 : w3.cell? ⟨gb155, 0, none⟩ = some (.string a0_0) := (blk_cell BK155.out 0).trans rfl
    have hcz8_1 : w3.cell? ⟨gb155, 1, none⟩ = some (.slice A0_1 l0_1.length c0_1) := (blk_cell BK155.out 1).trans rfl
    have hfz8_0 := blk_frozen BK155.out 0
    have hfz8_1 := blk_frozen BK155.out 1
    go_wp2_with (first | ((with_reducible refine gate_callee (f := 13) rfl ?_); refine goesL_ (some 7) rfl rfl Tryz.func13 (by kernel_rfl) rfl #[.string a0_0] rfl (by (try simp only [List.map_toArray, List.map_cons, List.map_nil]); first | done | rfl | (simp only [List.length_drop, List.length_take]; rfl)) ?_; (with_reducible refine (line_Name.calls k a0_0 true _ (by first | (with_reducible exact hG) | exact GG.below hG (by repeat (first | (with_reducible first | exact HB.out | apply below_alloc | apply pw_below_drewN | apply below_drew1 | refine below_set ?_ GE155.out) | exact HB.out))) A4.out).mono ?_); rintro e w' ⟨rfl, ⟨nd, rfl⟩⟩; refine ⟨_, rfl, ?_⟩))
    go_meet
    case rel => exact ⟨_, (decide ((l0_1.length : Int) > 60)), (by first | rfl | (simp; done) | (simp [bne_nil_isEmpty, beq_nil_isEmpty]; done) | (simp [*]; done)), H', ⟨by first | omega | exact Nat.le_refl _⟩, ⟨by (with_reducible repeat (first | refine blk_drewN ?_ _ | refine blk_drew ?_ | refine blk_alloc ?_ _)); exact BK155.out⟩, ⟨by repeat (first | (with_reducible first | exact HB.out | apply below_alloc | apply pw_below_drewN | apply below_drew1 | refine below_set ?_ GE155.out) | exact HB.out)⟩⟩
  ·replace c5 := Bool.eq_false_iff.mpr c5
   subst c5
   rw [if_neg (show ¬ (false = true) by decide)] at H
   have H' := Aside0.mk H
   clear H
   have hcz9_0 : w3.cell? ⟨gb155, 0, none⟩ = some (.string a0_0) := (blk_cell BK155.out 0).trans rfl
   have hcz9_1 : w3.cell? ⟨gb155, 1, none⟩ = some (.slice A0_1 l0_1.length c0_1) := (blk_cell BK155.out 1).trans rfl
   have hfz9_0 := blk_frozen BK155.out 0
   have hfz9_1 := blk_frozen BK155.out 1
   go_wp2_with (first | ((with_reducible refine gate_callee (f := 13) rfl ?_); refine goesL_ (some 7) rfl rfl Tryz.func13 (by kernel_rfl) rfl #[.string a0_0] rfl (by (try simp only [List.map_toArray, List.map_cons, List.map_nil]); first | done | rfl | (simp only [List.length_drop, List.length_take]; rfl)) ?_; (with_reducible refine (line_Name.calls k a0_0 false _ (by first | (with_reducible exact hG) | exact GG.below hG (by repeat (first | (with_reducible first | exact HB.out | apply below_alloc | apply pw_below_drewN | apply below_drew1 | refine below_set ?_ GE155.out) | exact HB.out))) A4.out).mono ?_); rintro e w' ⟨rfl, ⟨nd, rfl⟩⟩; refine ⟨_, rfl, ?_⟩))
   go_meet
   case rel => exact ⟨_, (true), (by first | rfl | (simp; done) | (simp [bne_nil_isEmpty, beq_nil_isEmpty]; done) | (simp [*]; done)), H', ⟨by first | omega | exact Nat.le_refl _⟩, ⟨by (with_reducible repeat (first | refine blk_drewN ?_ _ | refine blk_drew ?_ | refine blk_alloc ?_ _)); exact BK155.out⟩, ⟨by repeat (first | (with_reducible first | exact HB.out | apply below_alloc | apply pw_below_drewN | apply below_drew1 | refine below_set ?_ GE155.out) | exact HB.out)⟩⟩
 case rest =>
  clear HC2
  try clear c1
  try clear c2
  try clear p2
  try clear c5
  try clear c6
  try clear c6b0
  try clear c6b1
  try clear hcz7_0
  try clear hcz7_1
  try clear hcz8_0
  try clear hcz8_1
  try clear hcz9_0
  try clear hcz9_1
  try clear hfz7_0
  try clear hfz7_1
  try clear hfz8_0
  try clear hfz8_1
  try clear hfz9_0
  try clear hfz9_1
  obtain ⟨kq, x20_1, rfl, HA, HJ1, BK155, HB⟩ := hcut
  cases kq with
  | zero => exact absurd HA.out (by simp [line_Param_formed.j0])
  | succ kj1 =>
   have H := HA.out
   clear HA
   simp only [line_Param_formed.j0] at H
   by_cases c10 : x20_1 = true
   ·subst c10
    rw [if_pos rfl] at H
    obtain rfl := Option.some.inj H
    go_wp2
    go_ret
    exact ⟨by first | rfl | (simp [errW_none, errW_some] <;> rfl) | (simp [*, errW_none, errW_some] <;> rfl), by repeat (first | (with_reducible first | exact HB.out | apply below_alloc | apply pw_below_drewN | apply below_drew1 | refine below_set ?_ GE155.out) | exact HB.out)⟩
   ·replace c10 := Bool.eq_false_iff.mpr c10
    subst c10
    rw [if_neg (show ¬ (false = true) by decide)] at H
    have H' := Aside0.mk H
    clear H
    have hcz11_0 : wc.cell? ⟨gb155, 0, none⟩ = some (.string a0_0) := (blk_cell BK155.out 0).trans rfl
    have hcz11_1 : wc.cell? ⟨gb155, 1, none⟩ = some (.slice A0_1 l0_1.length c0_1) := (blk_cell BK155.out 1).trans rfl
    have hfz11_0 := blk_frozen BK155.out 0
    have hfz11_1 := blk_frozen BK155.out 1
    go_wp2
    go_loopg [24] kj1 (fun kq v24 w' => ∃ (x24_2 : Int), v24 = .int .i64 x24_2 ∧ Aside0 (line_Param_formed.l0 kq l0_1 (l0_1.length : Int) x24_2 = some r) ∧ Aside0 (kq ≤ kj1) ∧ Aside0 (w'.heap[gb155]? = some (.cells #[.string a0_0, (.slice A0_1 l0_1.length c0_1)] 53 (0, 0))) ∧ Aside0 (Below w.heap.size w w'))
    case atStart => exact ⟨(0), (by first | rfl | (simp; done) | (simp [bne_nil_isEmpty, beq_nil_isEmpty]; done) | (simp [*]; done)), H', ⟨Nat.le_refl _⟩, ⟨by (with_reducible repeat (first | refine blk_drewN ?_ _ | refine blk_drew ?_ | refine blk_alloc ?_ _)); exact BK155.out⟩, ⟨by repeat (first | (with_reducible first | exact HB.out | apply below_alloc | apply pw_below_drewN | apply below_drew1 | refine below_set ?_ GE155.out) | exact HB.out)⟩⟩
    case round =>
     clear H'
     try clear c1
     try clear c2
     try clear p2
     try clear c5
     try clear c6
     try clear c6b0
     try clear c6b1
     try clear c10
     try clear hcz11_0
     try clear hcz11_1
     try clear hcz7_0
     try clear hcz7_1
     try clear hcz8_0
     try clear hcz8_1
     try clear hcz9_0
     try clear hcz9_1
     try clear hfz11_0
     try clear hfz11_1
     try clear hfz7_0
     try clear hfz7_1
     try clear hfz8_0
     try clear hfz8_1
     try clear hfz9_0
     try clear hfz9_1
     try clear p2
     obtain ⟨x24_2, rfl, HA, HK2, BK155, HB⟩ := hrel
     cases gk with
     | zero => exact absurd HA.out (by simp [line_Param_formed.l0])
     | succ k2 =>
      have H := HA.out
      clear HA
      simp only [line_Param_formed.l0] at H
      by_cases c12 : x24_2 < (l0_1.length : Int)
      ·rw [if_pos c12] at H
       have c12b0 : decide (x24_2 < (l0_1.length : Int)) = true := decide_eq_true c12
       clear c12
       by_cases c13 : 0 ≤ x24_2
       ·rw [if_pos c13] at H
        have c13b0 : decide (0 ≤ x24_2) = true := decide_eq_true c13
        clear c13
        by_cases c14 : x24_2 < (l0_1.length : Int)
        ·rw [if_pos c14] at H
         have c14b0 : decide (x24_2 < (l0_1.length : Int)) = true := decide_eq_true c14
         clear c14
         replace H := Option.bind_eq_some_iff.mp H
         obtain ⟨t158, A150, H⟩ := H
         replace H : (if t158 = 0 then (line_Param_formed.l0 k2 l0_1 (l0_1.length : Int) (wrap64 (x24_2 + 1))) else (some false)) = some r := H
         have A15 := Aside0.mk A150
         clear A150
         by_cases c16 : t158 = 0
         ·rw [if_pos c16] at H
          have c16b0 : (t158 == 0) = true := beq_iff_eq.mpr c16
          have c16b1 : (t158 != 0) = false := bne_eq_false_iff_eq.mpr c16
          clear c16
          have H' := Aside0.mk H
          clear H
          have p157 : 0 ≤ (x24_2 : Int) := of_decide_eq_true (by first | (with_reducible assumption) | assumption)
          have q157 : x24_2 < (l0_1.length : Int) := of_decide_eq_true (by first | (with_reducible assumption) | assumption)
          obtain ⟨ad157, e157, hx157_0⟩ := Kd.at_string HR0_1.out x24_2 p157 q157
          cases e157
          replace hx157_0 := (HB.out.cell (World.block_lt_of_cell? w _ hx157_0)).trans hx157_0
          replace p157 := eq_true p157
          replace q157 := eq_true q157
          go_wp2_with (first | ((with_reducible refine gate_callee (f := 25) rfl ?_); refine goesL_ (some 29) rfl rfl Tryz.func25 (by kernel_rfl) rfl #[.string (rdOf ByteArray.empty l0_1 x24_2), .bool true] rfl (by (try simp only [List.map_toArray, List.map_cons, List.map_nil]); first | done | rfl | (simp only [List.length_drop, List.length_take]; rfl)) ?_; (with_reducible refine (escape_Clean.calls k2 (rdOf ByteArray.empty l0_1 x24_2) true t158 _ (by first | (with_reducible exact hG) | exact GG.below hG (by repeat (first | (with_reducible first | exact HB.out | apply below_alloc | apply pw_below_drewN | apply below_drew1 | refine below_set ?_ GE155.out) | exact HB.out))) A15.out).mono ?_); rintro e w17 ⟨rfl, hb⟩; refine ⟨_, rfl, ?_⟩; have n0_ := Aside0.mk (blk_below (g := gb155) (o := .cells #[.string a0_0, .slice (some ad157) l0_1.length c0_1] 53 (0, 0)) (by (with_reducible repeat (first | refine blk_drewN ?_ _ | refine blk_drew ?_ | refine blk_alloc ?_ _)); exact BK155.out) hb); have n1_ := Aside0.mk (below_step (by repeat (first | (with_reducible first | exact HB.out | apply below_alloc | apply pw_below_drewN | apply below_drew1 | refine below_set ?_ GE155.out) | exact HB.out)) hb); clear BK155; clear HB; have BK155 := n0_; have HB := n1_; clear n0_ n1_; (try clear hb); (try clear hb2); (try clear hk); (try clear hi)))
          go_roundg k2
          case measure => have := HJ1.out; have := HK2.out; omega
          case rel => exact ⟨(wrap64 (x24_2 + 1)), (by first | rfl | (simp; done) | (simp [bne_nil_isEmpty, beq_nil_isEmpty]; done) | (simp [*]; done)), H', ⟨by have := HJ1.out; have := HK2.out; omega⟩, ⟨by (with_reducible repeat (first | refine blk_drewN ?_ _ | refine blk_drew ?_ | refine blk_alloc ?_ _)); exact BK155.out⟩, ⟨by repeat (first | (with_reducible first | exact HB.out | apply below_alloc | apply pw_below_drewN | apply below_drew1 | refine below_set ?_ GE155.out) | exact HB.out)⟩⟩
         ·rw [if_neg c16] at H
          have c16b0 : (t158 == 0) = false := beq_eq_false_iff_ne.mpr c16
          have c16b1 : (t158 != 0) = true := bne_iff_ne.mpr c16
          obtain rfl := Option.some.inj H
          have p157 : 0 ≤ (x24_2 : Int) := of_decide_eq_true (by first | (with_reducible assumption) | assumption)
          have q157 : x24_2 < (l0_1.length : Int) := of_decide_eq_true (by first | (with_reducible assumption) | assumption)
          obtain ⟨ad157, e157, hx157_0⟩ := Kd.at_string HR0_1.out x24_2 p157 q157
          cases e157
          replace hx157_0 := (HB.out.cell (World.block_lt_of_cell? w _ hx157_0)).trans hx157_0
          replace p157 := eq_true p157
          replace q157 := eq_true q157
          go_wp2_with (first | ((with_reducible refine gate_callee (f := 25) rfl ?_); refine goesL_ (some 29) rfl rfl Tryz.func25 (by kernel_rfl) rfl #[.string (rdOf ByteArray.empty l0_1 x24_2), .bool true] rfl (by (try simp only [List.map_toArray, List.map_cons, List.map_nil]); first | done | rfl | (simp only [List.length_drop, List.length_take]; rfl)) ?_; (with_reducible refine (escape_Clean.calls k2 (rdOf ByteArray.empty l0_1 x24_2) true t158 _ (by first | (with_reducible exact hG) | exact GG.below hG (by repeat (first | (with_reducible first | exact HB.out | apply below_alloc | apply pw_below_drewN | apply below_drew1 | refine below_set ?_ GE155.out) | exact HB.out))) A15.out).mono ?_); rintro e w18 ⟨rfl, hb⟩; refine ⟨_, rfl, ?_⟩; have n0_ := Aside0.mk (blk_below (g := gb155) (o := .cells #[.string a0_0, .slice (some ad157) l0_1.length c0_1] 53 (0, 0)) (by (with_reducible repeat (first | refine blk_drewN ?_ _ | refine blk_drew ?_ | refine blk_alloc ?_ _)); exact BK155.out) hb); have n1_ := Aside0.mk (below_step (by repeat (first | (with_reducible first | exact HB.out | apply below_alloc | apply pw_below_drewN | apply below_drew1 | refine below_set ?_ GE155.out) | exact HB.out)) hb); clear BK155; clear HB; have BK155 := n0_; have HB := n1_; clear n0_ n1_; (try clear hb); (try clear hb2); (try clear hk); (try clear hi)))
          go_ret
          exact ⟨by first | rfl | (simp [errW_none, errW_some] <;> rfl) | (simp [*, errW_none, errW_some] <;> rfl), by repeat (first | (with_reducible first | exact HB.out | apply below_alloc | apply pw_below_drewN | apply below_drew1 | refine below_set ?_ GE155.out) | exact HB.out)⟩
        ·rw [if_neg c14] at H
         exact absurd H (by simp)
       ·rw [if_neg c13] at H
        exact absurd H (by simp)
      ·rw [if_neg c12] at H
       have c12b0 : decide (x24_2 < (l0_1.length : Int)) = false := decide_eq_false c12
       clear c12
       obtain rfl := Option.some.inj H
       go_wp2
       go_ret
       exact ⟨by first | rfl | (simp [errW_none, errW_some] <;> rfl) | (simp [*, errW_none, errW_some] <;> rfl), by repeat (first | (with_reducible first | exact HB.out | apply below_alloc | apply pw_below_drewN | apply below_drew1 | refine below_set ?_ GE155.out) | exact HB.out)⟩
end Go.Proofs.YtknmbalhbecdhaaGreatDoor.Print
end
section
set_option linter.unusedVariables false
set_option linter.unusedSimpArgs false
set_option linter.unusedSectionVars false
namespace Go.Proofs.YtknmbalhbecdhaaGreatDoor.Pure
open Go.RowKit Go.Proofs.YtknmbalhbecdhaaGreatDoor.Print Go.Proofs.YtknmbalhbecdhaaGreatDoorW.PrintWords Go.Proofs.YtknmbalhbecdhaaGreatDoorW.PrintLast
abbrev RP := S44
abbrev LP := S53
def toP (x : RP) : LP := ⟨x.f0, x.f1⟩
theorem wrapS (i n : Nat) (h : i < n) (hn : n ≤ 9000000000000000000) : wrap64 ((i : Int) + 1) = ((i + 1 : Nat) : Int) := by unfold wrap64; omega
theorem rdR (l : List RP) (i : Nat) (h : i < l.length) : rd_T44 l (i : Int) = l[i] := by
  unfold rd_T44
  rw [Int.toNat_natCast, List.getD_eq_getElem?_getD, List.getElem?_eq_getElem h]; rfl
theorem few1_ev (nm v : ByteArray) (l : List RP) (i : Nat) (hi : i < l.length) (hl : l.length ≤ 9000000000000000000) (hv : l[i].f1.length ≤ 9000000000000000000)
    (next : ∀ x3 : Int, ∃ b, Ev (fun k => trystlaw10_Few.l0 k x3 (l.length : Int) ((i + 1 : Nat) : Int) nm l v) b) :
    ∀ (d j : Nat) (x3 : Int), j + d = l[i].f1.length → ∃ b, Ev (fun k => trystlaw10_Few.l1 k x3 (i : Int) (l.length : Int) (i : Int) (l[i].f1.length : Int) (j : Int) nm l v) b := by
  intro d
  induction d with
  | zero =>
    intro j x3 hj
    by_cases h5 : x3 > 5000
    · exact ⟨false, Ev.step (f := fun _ => some false) (fun k => by simp only [trystlaw10_Few.l1]; rw [if_neg (by omega), if_pos h5]) (Ev.now _)⟩
    · obtain ⟨b, hb⟩ := next x3
      exact ⟨b, Ev.step (fun k => by simp only [trystlaw10_Few.l1]; rw [if_neg (by omega), if_neg h5, wrapS i _ hi hl]) hb⟩
  | succ d ih =>
    intro j x3 hj
    obtain ⟨b, hb⟩ := ih (j + 1) (wrap64 ((wrap64 (x3 + ((rdOf ByteArray.empty (l[i].f1) (j : Int)).size : Int))) + 1)) (by omega)
    exact ⟨b, Ev.step (fun k => by simp only [trystlaw10_Few.l1]; rw [if_pos (by omega), if_pos (by omega), if_pos (by omega), if_pos (by omega), rdR l i hi, if_pos (by omega), wrapS j _ (by omega) hv]) hb⟩
theorem few_ev (nm v : ByteArray) (l : List RP) (hl : l.length ≤ 9000000000000000000) (hv : ∀ x ∈ l, x.f1.length ≤ 9000000000000000000) :
    ∀ (d i : Nat) (x3 : Int), i + d = l.length → ∃ b, Ev (fun k => trystlaw10_Few.l0 k x3 (l.length : Int) (i : Int) nm l v) b := by
  intro d
  induction d with
  | zero =>
    intro i x3 hi
    exact ⟨_, Ev.step (f := fun _ => some (decide (x3 ≤ 5000))) (fun k => by simp only [trystlaw10_Few.l0]; rw [if_neg (by omega)]) (Ev.now _)⟩
  | succ d ih =>
    intro i x3 hi
    have hil : i < l.length := by omega
    obtain ⟨b, hb⟩ := few1_ev nm v l i hil hl (hv _ (List.getElem_mem hil)) (fun x => ih (i + 1) x (by omega)) l[i].f1.length 0 (wrap64 ((wrap64 (x3 + (l[i].f0.size : Int))) + 1)) (by omega)
    exact ⟨b, Ev.step (fun k => by simp only [trystlaw10_Few.l0]; rw [if_pos (by omega), if_pos (by omega), if_pos (by omega), rdR l i hil]; rfl) hb⟩
theorem theirs_ev (nm v : ByteArray) (l : List RP) (hl : l.length < 3518437208883) (hv : ∀ x ∈ l, x.f1.length < 8796093022208) :
    ∀ (d i : Nat) (acc : List LP), i + d = l.length → acc.length = i → Ev (fun k => trystlaw10_Theirs.l0 k (l.length : Int) (i : Int) nm l v nm acc v) (nm, acc ++ (l.drop i).map toP, v) := by
  intro d
  induction d with
  | zero =>
    intro i acc hi ha
    rw [List.drop_eq_nil_of_le (by omega), List.map_nil, List.append_nil]
    exact Ev.step (f := fun _ => some (nm, acc, v)) (fun k => by simp only [trystlaw10_Theirs.l0]; rw [if_neg (by omega)]) (Ev.now _)
  | succ d ih =>
    intro i acc hi ha
    have hil : i < l.length := by omega
    have h1 := hv _ (List.getElem_mem hil)
    have := ih (i + 1) (acc ++ [toP l[i]]) (by omega) (by simp [ha])
    rw [List.drop_eq_getElem_cons hil, List.map_cons, List.append_cons]
    refine Ev.step (fun k => ?_) this
    simp only [trystlaw10_Theirs.l0]
    rw [if_pos (by omega), if_pos (by omega), if_pos (by omega), Option.bind_some, rdR l i hil, if_pos (by simpa using h1), if_pos (by omega), wrapS i _ hil (by omega), List.nil_append]
    rfl
theorem theirs (nm v : ByteArray) (l : List RP) (hl : l.length < 3518437208883) (hv : ∀ x ∈ l, x.f1.length < 8796093022208) : Ev (fun k => trystlaw10_Theirs.f k nm l v) (nm, l.map toP, v) := by
  have := theirs_ev nm v l hl hv l.length 0 [] (by omega) rfl
  rw [List.nil_append, List.drop_zero] at this
  exact this
theorem toList_ba {a b : ByteArray} : a.toList = b.toList ↔ a = b := ⟨ba_toList, fun h => by rw [h]⟩
theorem rdS (l : List ByteArray) (i : Nat) (h : i < l.length) : rdOf ByteArray.empty l (i : Int) = l[i] := by
  unfold rdOf
  rw [Int.toNat_natCast, List.getD_eq_getElem?_getD, List.getElem?_eq_getElem h]; rfl
theorem awake10 : Ev (fun k => trystlaw10_awake.f k) true := Ev.of (k := 40) (fun k => trystlaw10_awake.mono k) (by decide +kernel)
end Go.Proofs.YtknmbalhbecdhaaGreatDoor.Pure
end
section
namespace Go.Proofs.YtknmbalhbecdhaaGreatDoor.Print
open Go.RowKit Go.Proofs.YtknmbalhbecdhaaGreatDoorW.PrintWords Go.Proofs.YtknmbalhbecdhaaGreatDoorW.PrintLast
set_option linter.unusedVariables false
set_option linter.unusedSimpArgs false
mutual
def line_Formed.j0 : Nat → Bool → ByteArray → List (S53) → ByteArray → Option (Bool)
 | 0, _, _, _, _ => none
 | k + 1, x20, x160000, x160001, x160002 => if x20 = true then (some false) else (line_Formed.l0 k x160001 (x160001.length : Int) 0 x160000 x160001 x160002)
def line_Formed.l0 : Nat → List (S53) → Int → Int → ByteArray → List (S53) → ByteArray → Option (Bool)
 | 0, _, _, _, _, _, _ => none
 | k + 1, x22, x23, x24, x160000, x160001, x160002 => if x24 < x23 then (if 0 ≤ x24 then (if x24 < (x22.length : Int) then ((line_Param_formed.f k ((rd_T53 x22 x24).f0) ((rd_T53 x22 x24).f1)).bind fun t164 => (if t164 = true then (if x24 ≤ (x160001.length : Int) then ((line_at.f (x160001.take (x24 : Int).toNat) ((rd_T53 x22 x24).f0)).bind fun t169 => (if t169 ≥ 0 then (some false) else (line_Formed.l0 k x22 x23 (wrap64 (x24 + 1)) x160000 x160001 x160002))) else (none)) else (some false))) else (none)) else (none)) else (some true)
end
def line_Formed.f (k : Nat) (a0_0 : ByteArray) (l0_1 : List (S53)) (a0_2 : ByteArray) : Option (Bool) := (line_Name.f k a0_0).bind fun t160 => (if t160 = true then (if (l0_1.length : Int) > 60 then (line_Formed.j0 k true a0_0 l0_1 a0_2) else ((escape_Clean.f k a0_2 false).bind fun t161 => (line_Formed.j0 k (t161 != 0) a0_0 l0_1 a0_2))) else (line_Formed.j0 k true a0_0 l0_1 a0_2))
def line_Formed.T6 : Bool × List (List Nat × List Nat) := (true, [([], []), ([0], [0]), ([1], [1]), ([2, 1], [2]), ([3], [3]), ([4, 3], [3, 4]), ([3], [3]), ([5, 6, 3], [3, 5, 6]), ([3], [3]), ([8, 3], [3, 8]), ([7, 9, 3, 3], [3, 7, 9]), ([10, 3], [3, 10]), ([3, 11], [3, 11])])
def line_Formed.B6 : List Nat := [0, 1, 3, 7, 15, 31, 15, 127, 15, 271, 1023, 2047, 4095]
theorem line_Formed.tab6 : rtab .any (opsOf Tryz.f11 6) = line_Formed.T6 := by kernel_rfl
theorem line_Formed.bits6 : waitsOk line_Formed.T6.2 line_Formed.B6 = true := by kernel_rfl
set_option maxHeartbeats 8000000 in
set_option maxRecDepth 100000 in
theorem line_Formed.calls (k : Nat) (a0_0 : ByteArray) (A0_1 : Option Addr) (c0_1 : Nat) (l0_1 : List (S53)) (a0_2 : ByteArray) (r : Bool) (w : World) (hG : GG w) (hr0_1 : Kd.C k53 w A0_1 l0_1.length l0_1) (hc0_1 : l0_1.length ≤ c0_1) (h : line_Formed.f k a0_0 l0_1 a0_2 = some r) :
  Calls Tryz.prog 11 #[.agg #[.string a0_0, .slice A0_1 l0_1.length c0_1, .string a0_2]] w fun e w' => e = .returned (.bool r) ∧ Below w.heap.size w w' := by
 have hu32 := Tryz.underlying32
 have hu53 := Tryz.underlying53
 have HR0_1 := Aside0.mk hr0_1
 have HC0_1 := Aside0.mk hc0_1
 clear hr0_1 hc0_1
 have HB := Aside0.mk (Below.refl w.heap.size w)
 have H : ((line_Name.f k a0_0).bind fun t160 => (if t160 = true then (if (l0_1.length : Int) > 60 then (line_Formed.j0 k true a0_0 l0_1 a0_2) else ((escape_Clean.f k a0_2 false).bind fun t161 => (line_Formed.j0 k (t161 != 0) a0_0 l0_1 a0_2))) else (line_Formed.j0 k true a0_0 l0_1 a0_2))) = some r := h
 clear h
 have HC2 := Aside0.mk H
 clear H
 go_enter Tryz.func11, Tryz.ntmps11
 go_upto_region 1 with (first | ((with_reducible refine gate_dst (N := 1) rfl ?_); (try (refine gate_guard (by rfl) ?_; dsimp only)); refine box_event ?hg (N := 1) ?hd (cs := #[.string a0_0, .slice A0_1 l0_1.length c0_1, .string a0_2]) (t := 32) ?hr ?_; (case hd => rfl); (case hg => rfl); (case hr => first | (go_simp; done) | (go_simp; rfl)); intro gb159 hg w3 hbox hb; have n0_ := Aside0.mk (below_step (by repeat (first | (with_reducible first | exact HB.out | apply below_alloc | apply pw_below_drewN | apply below_drew1) | exact HB.out)) hb); have n1_ := Aside0.mk (hbox); have n2_ := Aside0.mk ((by rw [hg]; exact (below_size (by repeat (first | (with_reducible first | exact HB.out | apply below_alloc | apply pw_below_drewN | apply below_drew1) | exact HB.out))) : w.heap.size ≤ gb159)); have n3_ := Aside0.mk ((by rw [hg]; exact (below_size (by repeat (first | (with_reducible first | exact HB.out | apply below_alloc | apply pw_below_drewN | apply below_drew1) | exact HB.out))) : w.heap.size ≤ gb159)); clear HB; have HB := n0_; have BK159 := n1_; have GW159 := n2_; have GE159 := n3_; clear n0_ n1_ n2_ n3_; clear hb hbox hg))
 (try simp only [Act.put, List.setIfInBounds_toArray, List.set_cons_zero, List.set_cons_succ])
 go_cut [20] (fun v20 wc => ∃ (kq : Nat) (x20_1 : Bool), v20 = .bool x20_1 ∧ Aside0 (line_Formed.j0 kq x20_1 a0_0 l0_1 a0_2 = some r) ∧ Aside0 (kq ≤ k) ∧ Aside0 (wc.heap[gb159]? = some (.cells #[.string a0_0, (.slice A0_1 l0_1.length c0_1), .string a0_2] 32 (0, 0))) ∧ Aside0 (Below w.heap.size w wc))
 case first =>
  have H := HC2.out
  clear HC2
  replace H := Option.bind_eq_some_iff.mp H
  obtain ⟨t160, A40, H⟩ := H
  replace H : (if t160 = true then (if (l0_1.length : Int) > 60 then (line_Formed.j0 k true a0_0 l0_1 a0_2) else ((escape_Clean.f k a0_2 false).bind fun t161 => (line_Formed.j0 k (t161 != 0) a0_0 l0_1 a0_2))) else (line_Formed.j0 k true a0_0 l0_1 a0_2)) = some r := H
  have A4 := Aside0.mk A40
  clear A40
  by_cases c5 : t160 = true
  ·subst c5
   rw [if_pos rfl] at H
   by_cases c6 : (l0_1.length : Int) > 60
   ·rw [if_pos c6] at H
    have c6b0 : decide (60 < (l0_1.length : Int)) = true := decide_eq_true c6
    have c6b1 : decide (60 < l0_1.length) = true := decide_eq_true (by omega)
    clear c6
    (first | rw [c6b0] | (simp only [i64_w, i32_w]; rw [c6b0]) | skip)
    have H' := Aside0.mk H
    clear H
    have hcz7_0 : w3.cell? ⟨gb159, 0, none⟩ = some (.string a0_0) := (blk_cell BK159.out 0).trans rfl
    have hcz7_1 : w3.cell? ⟨gb159, 1, none⟩ = some (.slice A0_1 l0_1.length c0_1) := (blk_cell BK159.out 1).trans rfl
    have hcz7_2 : w3.cell? ⟨gb159, 2, none⟩ = some (.string a0_2) := (blk_cell BK159.out 2).trans rfl
    have hfz7_0 := blk_frozen BK159.out 0
    have hfz7_1 := blk_frozen BK159.out 1
    have hfz7_2 := blk_frozen BK159.out 2
    go_wp2_with (first | ((with_reducible refine gate_callee (f := 13) rfl ?_); refine goesL_ (some 7) rfl rfl Tryz.func13 (by kernel_rfl) rfl #[.string a0_0] rfl (by (try simp only [List.map_toArray, List.map_cons, List.map_nil]); first | done | rfl | (simp only [List.length_drop, List.length_take]; rfl)) ?_; (with_reducible refine (line_Name.calls k a0_0 true _ (by first | (with_reducible exact hG) | exact GG.below hG (by repeat (first | (with_reducible first | exact HB.out | apply below_alloc | apply pw_below_drewN | apply below_drew1 | refine below_set ?_ GE159.out) | exact HB.out))) A4.out).mono ?_); rintro e w' ⟨rfl, ⟨nd, rfl⟩⟩; refine ⟨_, rfl, ?_⟩))
    go_meet
    case rel => exact ⟨_, (true), (by first | rfl | (simp; done) | (simp [bne_nil_isEmpty, beq_nil_isEmpty]; done) | (simp [*]; done)), H', ⟨by first | omega | exact Nat.le_refl _⟩, ⟨by (with_reducible repeat (first | refine blk_drewN ?_ _ | refine blk_drew ?_ | refine blk_alloc ?_ _)); exact BK159.out⟩, ⟨by repeat (first | (with_reducible first | exact HB.out | apply below_alloc | apply pw_below_drewN | apply below_drew1 | refine below_set ?_ GE159.out) | exact HB.out)⟩⟩
   ·rw [if_neg c6] at H
    have c6b0 : decide (60 < (l0_1.length : Int)) = false := decide_eq_false c6
    have c6b1 : decide (60 < l0_1.length) = false := decide_eq_false (by omega)
    clear c6
    (first | rw [c6b0] | (simp only [i64_w, i32_w]; rw [c6b0]) | skip)
    replace H := Option.bind_eq_some_iff.mp H
    obtain ⟨t161, A80, H⟩ := H
    replace H : (line_Formed.j0 k (t161 != 0) a0_0 l0_1 a0_2) = some r := H
    have A8 := Aside0.mk A80
    clear A80
    have H' := Aside0.mk H
    clear H
    have hcz9_0 : w3.cell? ⟨gb159, 0, none⟩ = some (.string a0_0) := (blk_cell BK159.out 0).trans rfl
    have hcz9_1 : w3.cell? ⟨gb159, 1, none⟩ = some (.slice A0_1 l0_1.length c0_1) := (blk_cell BK159.out 1).trans rfl
    have hcz9_2 : w3.cell? ⟨gb159, 2, none⟩ = some (.string a0_2) := (blk_cell BK159.out 2).trans rfl
    have hfz9_0 := blk_frozen BK159.out 0
    have hfz9_1 := blk_frozen BK159.out 1
    have hfz9_2 := blk_frozen BK159.out 2
    go_wp2_with (first | ((with_reducible refine gate_callee (f := 13) rfl ?_); refine goesL_ (some 7) rfl rfl Tryz.func13 (by kernel_rfl) rfl #[.string a0_0] rfl (by (try simp only [List.map_toArray, List.map_cons, List.map_nil]); first | done | rfl | (simp only [List.length_drop, List.length_take]; rfl)) ?_; (with_reducible refine (line_Name.calls k a0_0 true _ (by first | (with_reducible exact hG) | exact GG.below hG (by repeat (first | (with_reducible first | exact HB.out | apply below_alloc | apply pw_below_drewN | apply below_drew1 | refine below_set ?_ GE159.out) | exact HB.out))) A4.out).mono ?_); rintro e w' ⟨rfl, ⟨nd, rfl⟩⟩; refine ⟨_, rfl, ?_⟩) | (go_at_call 25; (with_reducible refine (escape_Clean.calls k a0_2 false t161 _ (by first | (with_reducible exact hG) | exact GG.below hG (by repeat (first | (with_reducible first | exact HB.out | apply below_alloc | apply pw_below_drewN | apply below_drew1 | refine below_set ?_ GE159.out) | exact HB.out))) A8.out).mono ?_); rintro e w10 ⟨rfl, hb⟩; have n0_ := Aside0.mk (blk_below (g := gb159) (o := .cells #[.string a0_0, .slice A0_1 l0_1.length c0_1, .string a0_2] 32 (0, 0)) (by (with_reducible repeat (first | refine blk_drewN ?_ _ | refine blk_drew ?_ | refine blk_alloc ?_ _)); exact BK159.out) hb); have n1_ := Aside0.mk (below_step (by repeat (first | (with_reducible first | exact HB.out | apply below_alloc | apply pw_below_drewN | apply below_drew1 | refine below_set ?_ GE159.out) | exact HB.out)) hb); clear BK159; clear HB; have BK159 := n0_; have HB := n1_; clear n0_ n1_; (try clear hb); (try clear hb2); (try clear hk); (try clear hi)))
    go_meet
    case rel => exact ⟨_, ((t161 != 0)), (by first | rfl | (simp; done) | (simp [bne_nil_isEmpty, beq_nil_isEmpty]; done) | (simp [*]; done)), H', ⟨by first | omega | exact Nat.le_refl _⟩, ⟨by (with_reducible repeat (first | refine blk_drewN ?_ _ | refine blk_drew ?_ | refine blk_alloc ?_ _)); exact BK159.out⟩, ⟨by repeat (first | (with_reducible first | exact HB.out | apply below_alloc | apply pw_below_drewN | apply below_drew1 | refine below_set ?_ GE159.out) | exact HB.out)⟩⟩
  ·replace c5 := Bool.eq_false_iff.mpr c5
   subst c5
   rw [if_neg (show ¬ (false = true) by decide)] at H
   have H' := Aside0.mk H
   clear H
   have hcz11_0 : w3.cell? ⟨gb159, 0, none⟩ = some (.string a0_0) := (blk_cell BK159.out 0).trans rfl
   have hcz11_1 : w3.cell? ⟨gb159, 1, none⟩ = some (.slice A0_1 l0_1.length c0_1) := (blk_cell BK159.out 1).trans rfl
   have hcz11_2 : w3.cell? ⟨gb159, 2, none⟩ = some (.string a0_2) := (blk_cell BK159.out 2).trans rfl
   have hfz11_0 := blk_frozen BK159.out 0
   have hfz11_1 := blk_frozen BK159.out 1
   have hfz11_2 := blk_frozen BK159.out 2
   go_wp2_with (first | ((with_reducible refine gate_callee (f := 13) rfl ?_); refine goesL_ (some 7) rfl rfl Tryz.func13 (by kernel_rfl) rfl #[.string a0_0] rfl (by (try simp only [List.map_toArray, List.map_cons, List.map_nil]); first | done | rfl | (simp only [List.length_drop, List.length_take]; rfl)) ?_; (with_reducible refine (line_Name.calls k a0_0 false _ (by first | (with_reducible exact hG) | exact GG.below hG (by repeat (first | (with_reducible first | exact HB.out | apply below_alloc | apply pw_below_drewN | apply below_drew1 | refine below_set ?_ GE159.out) | exact HB.out))) A4.out).mono ?_); rintro e w' ⟨rfl, ⟨nd, rfl⟩⟩; refine ⟨_, rfl, ?_⟩))
   go_meet
   case rel => exact ⟨_, (true), (by first | rfl | (simp; done) | (simp [bne_nil_isEmpty, beq_nil_isEmpty]; done) | (simp [*]; done)), H', ⟨by first | omega | exact Nat.le_refl _⟩, ⟨by (with_reducible repeat (first | refine blk_drewN ?_ _ | refine blk_drew ?_ | refine blk_alloc ?_ _)); exact BK159.out⟩, ⟨by repeat (first | (with_reducible first | exact HB.out | apply below_alloc | apply pw_below_drewN | apply below_drew1 | refine below_set ?_ GE159.out) | exact HB.out)⟩⟩
 case rest =>
  clear HC2
  try clear c1
  try clear p2
  try clear c5
  try clear c6
  try clear c6b0
  try clear c6b1
  try clear c11
  try clear hcz11_0
  try clear hcz11_1
  try clear hcz11_2
  try clear hcz7_0
  try clear hcz7_1
  try clear hcz7_2
  try clear hcz9_0
  try clear hcz9_1
  try clear hcz9_2
  try clear hfz11_0
  try clear hfz11_1
  try clear hfz11_2
  try clear hfz7_0
  try clear hfz7_1
  try clear hfz7_2
  try clear hfz9_0
  try clear hfz9_1
  try clear hfz9_2
  obtain ⟨kq, x20_1, rfl, HA, HJ1, BK159, HB⟩ := hcut
  cases kq with
  | zero => exact absurd HA.out (by simp [line_Formed.j0])
  | succ kj1 =>
   have H := HA.out
   clear HA
   simp only [line_Formed.j0] at H
   by_cases c12 : x20_1 = true
   ·subst c12
    rw [if_pos rfl] at H
    obtain rfl := Option.some.inj H
    go_wp2
    go_ret
    exact ⟨by first | rfl | (simp [errW_none, errW_some] <;> rfl) | (simp [*, errW_none, errW_some] <;> rfl), by repeat (first | (with_reducible first | exact HB.out | apply below_alloc | apply pw_below_drewN | apply below_drew1 | refine below_set ?_ GE159.out) | exact HB.out)⟩
   ·replace c12 := Bool.eq_false_iff.mpr c12
    subst c12
    rw [if_neg (show ¬ (false = true) by decide)] at H
    have H' := Aside0.mk H
    clear H
    have hcz13_0 : wc.cell? ⟨gb159, 0, none⟩ = some (.string a0_0) := (blk_cell BK159.out 0).trans rfl
    have hcz13_1 : wc.cell? ⟨gb159, 1, none⟩ = some (.slice A0_1 l0_1.length c0_1) := (blk_cell BK159.out 1).trans rfl
    have hcz13_2 : wc.cell? ⟨gb159, 2, none⟩ = some (.string a0_2) := (blk_cell BK159.out 2).trans rfl
    have hfz13_0 := blk_frozen BK159.out 0
    have hfz13_1 := blk_frozen BK159.out 1
    have hfz13_2 := blk_frozen BK159.out 2
    go_wp2
    go_loopg [24] kj1 (fun kq v24 w' => ∃ (x24_2 : Int), v24 = .int .i64 x24_2 ∧ Aside0 (line_Formed.l0 kq l0_1 (l0_1.length : Int) x24_2 a0_0 l0_1 a0_2 = some r) ∧ Aside0 (kq ≤ kj1) ∧ Aside0 (w'.heap[gb159]? = some (.cells #[.string a0_0, (.slice A0_1 l0_1.length c0_1), .string a0_2] 32 (0, 0))) ∧ Aside0 (Below w.heap.size w w'))
    case atStart => exact ⟨(0), (by first | rfl | (simp; done) | (simp [bne_nil_isEmpty, beq_nil_isEmpty]; done) | (simp [*]; done)), H', ⟨Nat.le_refl _⟩, ⟨by (with_reducible repeat (first | refine blk_drewN ?_ _ | refine blk_drew ?_ | refine blk_alloc ?_ _)); exact BK159.out⟩, ⟨by repeat (first | (with_reducible first | exact HB.out | apply below_alloc | apply pw_below_drewN | apply below_drew1 | refine below_set ?_ GE159.out) | exact HB.out)⟩⟩
    case round =>
     clear H'
     try clear c1
     try clear p2
     try clear c5
     try clear c6
     try clear c6b0
     try clear c6b1
     try clear c11
     try clear c12
     try clear c13
     try clear hcz11_0
     try clear hcz11_1
     try clear hcz11_2
     try clear hcz13_0
     try clear hcz13_1
     try clear hcz13_2
     try clear hcz7_0
     try clear hcz7_1
     try clear hcz7_2
     try clear hcz9_0
     try clear hcz9_1
     try clear hcz9_2
     try clear hfz11_0
     try clear hfz11_1
     try clear hfz11_2
     try clear hfz13_0
     try clear hfz13_1
     try clear hfz13_2
     try clear hfz7_0
     try clear hfz7_1
     try clear hfz7_2
     try clear hfz9_0
     try clear hfz9_1
     try clear hfz9_2
     try clear p2
     obtain ⟨x24_2, rfl, HA, HK2, BK159, HB⟩ := hrel
     cases gk with
     | zero => exact absurd HA.out (by simp [line_Formed.l0])
     | succ k2 =>
      have H := HA.out
      clear HA
      simp only [line_Formed.l0] at H
      by_cases c14 : x24_2 < (l0_1.length : Int)
      ·rw [if_pos c14] at H
       have c14b0 : decide (x24_2 < (l0_1.length : Int)) = true := decide_eq_true c14
       clear c14
       by_cases c15 : 0 ≤ x24_2
       ·rw [if_pos c15] at H
        have c15b0 : decide (0 ≤ x24_2) = true := decide_eq_true c15
        clear c15
        by_cases c16 : x24_2 < (l0_1.length : Int)
        ·rw [if_pos c16] at H
         have c16b0 : decide (x24_2 < (l0_1.length : Int)) = true := decide_eq_true c16
         clear c16
         replace H := Option.bind_eq_some_iff.mp H
         obtain ⟨t164, A170, H⟩ := H
         replace H : (if t164 = true then (if x24_2 ≤ (l0_1.length : Int) then ((line_at.f (l0_1.take (x24_2 : Int).toNat) ((rd_T53 l0_1 x24_2).f0)).bind fun t169 => (if t169 ≥ 0 then (some false) else (line_Formed.l0 k2 l0_1 (l0_1.length : Int) (wrap64 (x24_2 + 1)) a0_0 l0_1 a0_2))) else (none)) else (some false)) = some r := H
         have A17 := Aside0.mk A170
         clear A170
         by_cases c18 : t164 = true
         ·subst c18
          rw [if_pos rfl] at H
          have c19b0 := eq_true (of_decide_eq_true (by first | (with_reducible assumption) | assumption) : 0 ≤ x24_2)
          by_cases c20 : x24_2 ≤ (l0_1.length : Int)
          ·rw [if_pos c20] at H
           have c20b0 := eq_true c20
           have c20b1 : decide (x24_2 ≤ (l0_1.length : Int)) = true := decide_eq_true c20
           clear c20
           obtain ⟨y165, hy165⟩ : ∃ y_ : List (S53), y_ = (l0_1.take (x24_2 : Int).toNat) := ⟨_, rfl⟩
           replace H : ((line_at.f y165 ((rd_T53 l0_1 x24_2).f0)).bind fun t169 => (if t169 ≥ 0 then (some false) else (line_Formed.l0 k2 l0_1 (l0_1.length : Int) (wrap64 (x24_2 + 1)) a0_0 l0_1 a0_2))) = some r := by first | (rw [hy165]; with_reducible exact H) | (have H2_ := (Option.bind_some _ _).symm.trans H; rw [hy165]; with_reducible exact H2_) | (have H2_ := (Option.bind_some _ _).symm.trans H; with_reducible exact H2_) | with_reducible exact H | (rw [hy165]; exact H) | exact H
           have Ny165 := Aside0.mk hy165
           clear hy165
           replace H := Option.bind_eq_some_iff.mp H
           obtain ⟨t169, A210, H⟩ := H
           replace H : (if t169 ≥ 0 then (some false) else (line_Formed.l0 k2 l0_1 (l0_1.length : Int) (wrap64 (x24_2 + 1)) a0_0 l0_1 a0_2)) = some r := H
           have A21 := Aside0.mk A210
           clear A210
           by_cases c22 : t169 ≥ 0
           ·rw [if_pos c22] at H
            have c22b0 : decide (0 ≤ t169) = true := decide_eq_true c22
            clear c22
            obtain rfl := Option.some.inj H
            have p162 : 0 ≤ (x24_2 : Int) := of_decide_eq_true (by first | (with_reducible assumption) | assumption)
            have q162 : x24_2 < (l0_1.length : Int) := of_decide_eq_true (by first | (with_reducible assumption) | assumption)
            obtain ⟨ad162, A162_1, c162_1, e162, hx162_0, hx162_1, hl162_1, hi162_1⟩ := at_T53 HR0_1.out x24_2 p162 q162
            cases e162
            replace hx162_0 := (HB.out.cell (World.block_lt_of_cell? w _ hx162_0)).trans hx162_0
            replace hx162_1 := (HB.out.cell (World.block_lt_of_cell? w _ hx162_1)).trans hx162_1
            have HR162_1 := Aside0.mk hi162_1
            have HC162_1 := Aside0.mk hl162_1
            clear hi162_1 hl162_1
            replace p162 := eq_true p162
            replace q162 := eq_true q162
            try go_wp2_with (first | ((with_reducible refine gate_dst (N := 4) rfl ?_); (try (refine gate_guard (by rfl) ?_; dsimp only)); refine box_event ?hg (N := 4) ?hd (cs := #[.string (⟨#[]⟩ : ByteArray), .slice none 0 0]) (t := 53) ?hr ?_; (case hd => rfl); (case hg => rfl); (case hr => first | (go_simp; done) | (go_simp; rfl)); intro gb163 hg w23 hbox hb; have n0_ := Aside0.mk (blk_below (g := gb159) (o := .cells #[.string a0_0, .slice (some ad162) l0_1.length c0_1, .string a0_2] 32 (0, 0)) (by (with_reducible repeat (first | refine blk_drewN ?_ _ | refine blk_drew ?_ | refine blk_alloc ?_ _)); exact BK159.out) hb); have n1_ := Aside0.mk (below_step (by repeat (first | (with_reducible first | exact HB.out | apply below_alloc | apply pw_below_drewN | apply below_drew1 | refine below_set ?_ GE159.out) | exact HB.out)) hb); have n2_ := Aside0.mk (hbox); have n3_ := Aside0.mk ((by rw [hg]; exact (below_size (by repeat (first | (with_reducible first | exact HB.out | apply below_alloc | apply pw_below_drewN | apply below_drew1 | refine below_set ?_ GE159.out) | exact HB.out))) : w.heap.size ≤ gb163)); have n4_ := Aside0.mk ((by rw [hg]; exact (below_size (by repeat (first | (with_reducible first | exact HB.out | apply below_alloc | apply pw_below_drewN | apply below_drew1 | refine below_set ?_ GE159.out) | exact HB.out))) : w.heap.size ≤ gb163)); have n5_ := Aside0.mk ((by rw [hg]; exact Nat.ne_of_lt (blk_lt (g := gb159) (o := .cells #[.string a0_0, .slice (some ad162) l0_1.length c0_1, .string a0_2] 32 (0, 0)) (by (with_reducible repeat (first | refine blk_drewN ?_ _ | refine blk_drew ?_ | refine blk_alloc ?_ _)); exact BK159.out)) : gb159 ≠ gb163)); have n6_ := Aside0.mk ((by rw [hg]; exact Nat.ne_of_gt (blk_lt (g := gb159) (o := .cells #[.string a0_0, .slice (some ad162) l0_1.length c0_1, .string a0_2] 32 (0, 0)) (by (with_reducible repeat (first | refine blk_drewN ?_ _ | refine blk_drew ?_ | refine blk_alloc ?_ _)); exact BK159.out)) : gb163 ≠ gb159)); clear BK159; clear HB; have BK159 := n0_; have HB := n1_; have BK163 := n2_; have GW163 := n3_; have GE163 := n4_; have NB159_163 := n5_; have NB163_159 := n6_; clear n0_ n1_ n2_ n3_ n4_ n5_ n6_; clear hb hbox hg; have hnb24 := NB163_159.out; have hnc24 := NB159_163.out; have hcz25_0 : w23.cell? ⟨gb163, 0, none⟩ = some (.string (⟨#[]⟩ : ByteArray)) := (blk_cell BK163.out 0).trans rfl; have hcz25_1 : w23.cell? ⟨gb163, 1, none⟩ = some (.slice none 0 0) := (blk_cell BK163.out 1).trans rfl; have hfz25_0 := blk_frozen BK163.out 0; have hfz25_1 := blk_frozen BK163.out 1))
            have n0_ : Aside0 (((w23.setCell ⟨gb163, 0, none⟩ (.string ((rd_T53 l0_1 x24_2).f0))).setCell ⟨gb163, 1, none⟩ (.slice A162_1 ((rd_T53 l0_1 x24_2).f1).length c162_1)).heap[gb159]? = some (.cells #[.string a0_0, .slice (some ad162) l0_1.length c0_1, .string a0_2] 32 (0, 0))) := ⟨by (with_reducible repeat (first | refine blk_drewN ?_ _ | refine blk_drew ?_ | refine blk_alloc ?_ _)); refine blk_far ?_ NB159_163.out _; (with_reducible repeat (first | refine blk_drewN ?_ _ | refine blk_drew ?_ | refine blk_alloc ?_ _)); refine blk_far ?_ NB159_163.out _; (with_reducible repeat (first | refine blk_drewN ?_ _ | refine blk_drew ?_ | refine blk_alloc ?_ _)); exact BK159.out⟩
            have n1_ : Aside0 (((w23.setCell ⟨gb163, 0, none⟩ (.string ((rd_T53 l0_1 x24_2).f0))).setCell ⟨gb163, 1, none⟩ (.slice A162_1 ((rd_T53 l0_1 x24_2).f1).length c162_1)).heap[gb163]? = some (.cells #[.string ((rd_T53 l0_1 x24_2).f0), .slice A162_1 ((rd_T53 l0_1 x24_2).f1).length c162_1] 53 (0, 0))) := ⟨by (with_reducible repeat (first | refine blk_drewN ?_ _ | refine blk_drew ?_ | refine blk_alloc ?_ _)); refine blk_put (cs := #[.string ((rd_T53 l0_1 x24_2).f0), .slice none 0 0]) ?_ 1 _ rfl; (with_reducible repeat (first | refine blk_drewN ?_ _ | refine blk_drew ?_ | refine blk_alloc ?_ _)); refine blk_put (cs := #[.string (⟨#[]⟩ : ByteArray), .slice none 0 0]) ?_ 0 _ rfl; (with_reducible repeat (first | refine blk_drewN ?_ _ | refine blk_drew ?_ | refine blk_alloc ?_ _)); exact BK163.out⟩
            have n2_ : Aside0 (Below w.heap.size w ((w23.setCell ⟨gb163, 0, none⟩ (.string ((rd_T53 l0_1 x24_2).f0))).setCell ⟨gb163, 1, none⟩ (.slice A162_1 ((rd_T53 l0_1 x24_2).f1).length c162_1))) := ⟨by repeat (first | (with_reducible first | exact HB.out | apply below_alloc | apply pw_below_drewN | apply below_drew1 | refine below_set ?_ GE159.out | refine below_set ?_ GE163.out) | exact HB.out)⟩
            (try clear BK159)
            (try clear BK163)
            (try clear HB)
            generalize ((w23.setCell ⟨gb163, 0, none⟩ (.string ((rd_T53 l0_1 x24_2).f0))).setCell ⟨gb163, 1, none⟩ (.slice A162_1 ((rd_T53 l0_1 x24_2).f1).length c162_1)) = w26 at n0_ n1_ n2_ ⊢
            have BK159 := n0_
            have BK163 := n1_
            have HB := n2_
            clear n0_ n1_ n2_
            have n0_ := Aside0.mk (blk_drew BK159.out)
            have n1_ := Aside0.mk (blk_drew BK163.out)
            have n2_ := Aside0.mk (below_drew1 HB.out)
            clear BK159
            clear BK163
            clear HB
            have BK159 := n0_
            have BK163 := n1_
            have HB := n2_
            clear n0_ n1_ n2_
            refine start_ (n := 13) (S := fun w' => w'.cell? ⟨gb163, 0, none⟩ = some (.string ((rd_T53 l0_1 x24_2).f0)) ∧ w'.cell? ⟨gb163, 1, none⟩ = some (.slice A162_1 ((rd_T53 l0_1 x24_2).f1).length c162_1) ∧ w'.cell? ⟨gb159, 0, none⟩ = some (.string a0_0) ∧ w'.cell? ⟨gb159, 1, none⟩ = some (.slice (some ad162) l0_1.length c0_1) ∧ w'.cell? ⟨gb159, 2, none⟩ = some (.string a0_2)) (ds := []) #[false, false, false, false, false, false, false, false, false, false, false, false, false] (by kernel_rfl) rfl rfl ⟨(blk_cell BK163.out 0).trans rfl, (blk_cell BK163.out 1).trans rfl, (blk_cell BK159.out 0).trans rfl, (blk_cell BK159.out 1).trans rfl, (blk_cell BK159.out 2).trans rfl⟩ (fun hHeld => ?_); refine with_tabW line_Formed.tab6 line_Formed.bits6 (fun HT_ HW_ => ?_)
            generalize w26.drew = w27 at BK159 BK163 HB hHeld ⊢
            refine take_ (i := 0) (N := some 29) (v := ?_) (a' := ?_) #[true, false, false, false, false, false, false, false, false, false, false, false, false] rfl rfl (take_ofW HT_.out HW_.out (by kernel_rfl)) (fun _ _ _ h => h) (Or.inl ⟨by rfl, ?_⟩) hHeld ?_ ?_
            rotate_left
            ·rintro w' ⟨s0, s1, s2, s3, s4⟩
             go_simp
             with_reducible rfl
            rotate_left
            ·simp only [Act.put, List.setIfInBounds_toArray, List.set_cons_zero, List.set_cons_succ, i64_w, i32_w]
             rfl
            refine one_ (i := 1) (N := some 30) #[true, true, false, false, false, false, false, false, false, false, false, false, false] rfl rfl (one_of HT_.out (by kernel_rfl)) (by decide) (fun K hK => ?_)
            refine goes_ Tryz.func26 (by kernel_rfl) rfl #[.agg #[.string ((rd_T53 l0_1 x24_2).f0), .slice A162_1 ((rd_T53 l0_1 x24_2).f1).length c162_1]] (by rfl) rfl rfl (by (try simp only [List.map_toArray, List.map_cons, List.map_nil]); first | done | rfl | (simp only [List.length_drop, List.length_take]; rfl)) ?_
            with_reducible refine (line_Param_formed.calls k2 ((rd_T53 l0_1 x24_2).f0) _ _ ((rd_T53 l0_1 x24_2).f1) true _ (by first | (with_reducible exact hG) | exact GG.below hG (by repeat (first | (with_reducible first | exact HB.out | apply below_alloc | apply pw_below_drewN | apply below_drew1 | refine below_set ?_ GE159.out | refine below_set ?_ GE163.out) | exact HB.out))) ?side1 ?side2 A17.out).mono ?_
            (case side1 => repeat (first | exact (Kd.C_below HR162_1.out HB.out) | (with_reducible refine Kd.C_alloc ?_ _) | (with_reducible refine Kd.C_drewN ?_ _) | (with_reducible refine Kd.C_drew ?_)))
            (case side2 => exact HC162_1.out)
            rintro e w28 ⟨rfl, hb⟩
            refine ⟨_, rfl, ?_⟩
            have n0_ := Aside0.mk (blk_below (g := gb159) (o := .cells #[.string a0_0, .slice (some ad162) l0_1.length c0_1, .string a0_2] 32 (0, 0)) (by (with_reducible repeat (first | refine blk_drewN ?_ _ | refine blk_drew ?_ | refine blk_alloc ?_ _)); exact BK159.out) hb)
            have n1_ := Aside0.mk (blk_below (g := gb163) (o := .cells #[.string ((rd_T53 l0_1 x24_2).f0), .slice A162_1 ((rd_T53 l0_1 x24_2).f1).length c162_1] 53 (0, 0)) (by (with_reducible repeat (first | refine blk_drewN ?_ _ | refine blk_drew ?_ | refine blk_alloc ?_ _)); exact BK163.out) hb)
            have n2_ := Aside0.mk (below_step (by repeat (first | (with_reducible first | exact HB.out | apply below_alloc | apply pw_below_drewN | apply below_drew1 | refine below_set ?_ GE159.out | refine below_set ?_ GE163.out) | exact HB.out)) hb)
            clear BK159
            clear BK163
            clear HB
            have BK159 := n0_
            have BK163 := n1_
            have HB := n2_
            clear n0_ n1_ n2_
            (try clear hb)
            (try clear hb2)
            (try clear hk)
            (try clear hi)
            have q29 : (x24_2 : Int) ≤ ((l0_1.length : Int) : Int) := of_decide_eq_true (by first | (with_reducible assumption) | assumption)
            obtain ⟨i029, hi029, _, hsz29, _⟩ := info_parts info53
            have hroom29 : l0_1.length ≤ c0_1 := HC0_1.out
            have hC29 : Kd.C k53 _ (some ad162) l0_1.length l0_1 := HR0_1.out
            have hcut29 := cut_to (P := Tryz.prog) 30 53 .i64 Tryz.underlying30 hi029 (some ad162) l0_1.length c0_1 x24_2 (of_decide_eq_true (by first | (with_reducible assumption) | assumption)) q29 hroom29
            have hr29 := Kd.C_take (m := (x24_2 : Int).toNat) hC29 (by omega)
            have hy29 : y165.length = (x24_2 : Int).toNat := (by rw [Ny165.out, List.length_take]; omega)
            rw [← Ny165.out] at hr29
            rw [← hy29] at hcut29
            have HR168 := Aside0.mk hr29
            have HC168 := Aside0.mk (show y165.length ≤ c0_1 from by omega)
            clear hr29 hC29 hroom29 hi029 hsz29
            have KY29 := Aside0.mk hy29
            clear hy29
            replace q29 := eq_true q29
            refine hK.out _ _ ⟨(blk_cell BK163.out 0).trans rfl, (blk_cell BK163.out 1).trans rfl, (blk_cell BK159.out 0).trans rfl, (blk_cell BK159.out 1).trans rfl, (blk_cell BK159.out 2).trans rfl⟩ (fun hHeld => ?_)
            clear hK K
            refine norm_ (a' := ?_) ?_ ?_
            rotate_left
            ·show Act.put _ (some 30) _ = _
             simp only [Act.put, List.setIfInBounds_toArray, List.set_cons_zero, List.set_cons_succ, i64_w, i32_w]
             rfl
            refine pure_ (i := 2) (N := some 31) (v := ?_) (a' := ?_) #[true, true, true, false, false, false, false, false, false, false, false, false, false] rfl rfl (any_of HT_.out (by kernel_rfl)) (fun _ _ _ h => h) (Or.inl ⟨by rfl, ?_⟩) ?_ ?_
            rotate_left
            ·intro w'
             go_simp
             with_reducible rfl
            rotate_left
            ·simp only [Act.put, List.setIfInBounds_toArray, List.set_cons_zero, List.set_cons_succ, i64_w, i32_w]
             rfl
            refine pure_ (i := 3) (N := some 32) (v := ?_) (a' := ?_) #[true, true, true, true, false, false, false, false, false, false, false, false, false] rfl rfl (any_of HT_.out (by kernel_rfl)) (fun _ _ _ h => h) (Or.inl ⟨by rfl, ?_⟩) ?_ ?_
            rotate_left
            ·intro w'
             go_simp
             with_reducible rfl
            rotate_left
            ·simp only [Act.put, List.setIfInBounds_toArray, List.set_cons_zero, List.set_cons_succ, i64_w, i32_w]
             rfl
            refine pure_ (i := 4) (N := some 33) (v := ?_) (a' := ?_) #[true, true, true, true, true, false, false, false, false, false, false, false, false] rfl rfl (any_of HT_.out (by kernel_rfl)) (fun _ _ _ h => h) (Or.inl ⟨by rfl, ?_⟩) ?_ ?_
            rotate_left
            ·intro w'
             go_simp
             with_reducible rfl
            rotate_left
            ·simp only [Act.put, List.setIfInBounds_toArray, List.set_cons_zero, List.set_cons_succ, i64_w, i32_w]
             rfl
            refine pure_ (i := 6) (N := some 35) (v := ?_) (a' := ?_) #[true, true, true, true, true, false, true, false, false, false, false, false, false] rfl rfl (any_of HT_.out (by kernel_rfl)) (fun _ _ _ h => h) (Or.inl ⟨by rfl, ?_⟩) ?_ ?_
            rotate_left
            ·intro w'
             go_simp
             with_reducible rfl
            rotate_left
            ·simp only [Act.put, List.setIfInBounds_toArray, List.set_cons_zero, List.set_cons_succ, i64_w, i32_w]
             rfl
            refine pure_ (i := 8) (N := some 37) (v := ?_) (a' := ?_) #[true, true, true, true, true, false, true, false, true, false, false, false, false] rfl rfl (any_of HT_.out (by kernel_rfl)) (fun _ _ _ h => h) (Or.inl ⟨by rfl, ?_⟩) ?_ ?_
            rotate_left
            ·intro w'
             go_simp
             with_reducible rfl
            rotate_left
            ·simp only [Act.put, List.setIfInBounds_toArray, List.set_cons_zero, List.set_cons_succ, i64_w, i32_w]
             rfl
            refine take_ (i := 5) (N := some 34) (v := ?_) (a' := ?_) #[true, true, true, true, true, true, true, false, true, false, false, false, false] rfl rfl (take_ofW HT_.out HW_.out (by kernel_rfl)) (fun _ _ _ h => h) (Or.inl ⟨by rfl, ?_⟩) hHeld ?_ ?_
            rotate_left
            ·rintro w' ⟨s0, s1, s2, s3, s4⟩
             go_simp
             with_reducible rfl
            rotate_left
            ·simp only [Act.put, List.setIfInBounds_toArray, List.set_cons_zero, List.set_cons_succ, i64_w, i32_w]
             rfl
            refine pure_ (i := 7) (N := some 36) (v := ?_) (a' := ?_) #[true, true, true, true, true, true, true, true, true, false, false, false, false] rfl rfl (any_of HT_.out (by kernel_rfl)) (fun _ _ _ h => h) (Or.inl ⟨by rfl, ?_⟩) ?_ ?_
            rotate_left
            ·intro w'
             go_simp
             with_reducible rfl
            rotate_left
            ·simp only [Act.put, List.setIfInBounds_toArray, List.set_cons_zero, List.set_cons_succ, i64_w, i32_w]
             rfl
            refine take_ (i := 9) (N := some 38) (v := ?_) (a' := ?_) #[true, true, true, true, true, true, true, true, true, true, false, false, false] rfl rfl (take_ofW HT_.out HW_.out (by kernel_rfl)) (fun _ _ _ h => h) (Or.inl ⟨by rfl, ?_⟩) hHeld ?_ ?_
            rotate_left
            ·rintro w' ⟨s0, s1, s2, s3, s4⟩
             go_simp
             with_reducible rfl
            rotate_left
            ·simp only [Act.put, List.setIfInBounds_toArray, List.set_cons_zero, List.set_cons_succ, i64_w, i32_w]
             rfl
            refine one_ (i := 10) (N := some 39) #[true, true, true, true, true, true, true, true, true, true, true, false, false] rfl rfl (one_of HT_.out (by kernel_rfl)) (by decide) (fun K hK => ?_)
            refine goes_ Tryz.func27 (by kernel_rfl) rfl #[.slice (some ad162) y165.length c0_1, .string ((rd_T53 l0_1 x24_2).f0)] (by rfl) rfl rfl (by (try simp only [List.map_toArray, List.map_cons, List.map_nil]); first | done | rfl | (simp only [List.length_drop, List.length_take]; rfl)) ?_
            with_reducible refine (line_at.calls _ _ y165 ((rd_T53 l0_1 x24_2).f0) t169 _ (by first | (with_reducible exact hG) | exact GG.below hG (by repeat (first | (with_reducible first | exact HB.out | apply below_alloc | apply pw_below_drewN | apply below_drew1 | refine below_set ?_ GE159.out | refine below_set ?_ GE163.out) | exact HB.out))) ?side1 ?side2 A21.out).mono ?_
            (case side1 => repeat (first | exact (Kd.C_below HR168.out HB.out) | (with_reducible refine Kd.C_alloc ?_ _) | (with_reducible refine Kd.C_drewN ?_ _) | (with_reducible refine Kd.C_drew ?_)))
            (case side2 => exact HC168.out)
            rintro e w30 ⟨rfl, hb⟩
            refine ⟨_, rfl, ?_⟩
            have n0_ := Aside0.mk (blk_below (g := gb159) (o := .cells #[.string a0_0, .slice (some ad162) l0_1.length c0_1, .string a0_2] 32 (0, 0)) (by (with_reducible repeat (first | refine blk_drewN ?_ _ | refine blk_drew ?_ | refine blk_alloc ?_ _)); exact BK159.out) hb)
            have n1_ := Aside0.mk (blk_below (g := gb163) (o := .cells #[.string ((rd_T53 l0_1 x24_2).f0), .slice A162_1 ((rd_T53 l0_1 x24_2).f1).length c162_1] 53 (0, 0)) (by (with_reducible repeat (first | refine blk_drewN ?_ _ | refine blk_drew ?_ | refine blk_alloc ?_ _)); exact BK163.out) hb)
            have n2_ := Aside0.mk (below_step (by repeat (first | (with_reducible first | exact HB.out | apply below_alloc | apply pw_below_drewN | apply below_drew1 | refine below_set ?_ GE159.out | refine below_set ?_ GE163.out) | exact HB.out)) hb)
            clear BK159
            clear BK163
            clear HB
            have BK159 := n0_
            have BK163 := n1_
            have HB := n2_
            clear n0_ n1_ n2_
            (try clear hb)
            (try clear hb2)
            (try clear hk)
            (try clear hi)
            refine hK.out _ _ ⟨(blk_cell BK163.out 0).trans rfl, (blk_cell BK163.out 1).trans rfl, (blk_cell BK159.out 0).trans rfl, (blk_cell BK159.out 1).trans rfl, (blk_cell BK159.out 2).trans rfl⟩ (fun hHeld => ?_)
            clear hK K
            refine norm_ (a' := ?_) ?_ ?_
            rotate_left
            ·show Act.put _ (some 39) _ = _
             simp only [Act.put, List.setIfInBounds_toArray, List.set_cons_zero, List.set_cons_succ, i64_w, i32_w]
             rfl
            refine pure_ (i := 11) (N := some 40) (v := ?_) (a' := ?_) #[true, true, true, true, true, true, true, true, true, true, true, true, false] rfl rfl (any_of HT_.out (by kernel_rfl)) (fun _ _ _ h => h) (Or.inl ⟨by rfl, ?_⟩) ?_ ?_
            rotate_left
            ·intro w'
             go_simp
             with_reducible rfl
            rotate_left
            ·simp only [Act.put, List.setIfInBounds_toArray, List.set_cons_zero, List.set_cons_succ, i64_w, i32_w]
             rfl
            refine pure_ (i := 12) (N := some 41) (v := ?_) (a' := ?_) #[true, true, true, true, true, true, true, true, true, true, true, true, true] rfl rfl (any_of HT_.out (by kernel_rfl)) (fun _ _ _ h => h) (Or.inl ⟨by rfl, ?_⟩) ?_ ?_
            rotate_left
            ·intro w'
             go_simp
             with_reducible rfl
            rotate_left
            ·simp only [Act.put, List.setIfInBounds_toArray, List.set_cons_zero, List.set_cons_succ, i64_w, i32_w]
             rfl
            refine done_ (done_of HT_.out (by kernel_rfl)) ?_
            try go_wp2
            go_ret
            exact ⟨by first | rfl | (simp [errW_none, errW_some] <;> rfl) | (simp [*, errW_none, errW_some] <;> rfl), by repeat (first | (with_reducible first | exact HB.out | apply below_alloc | apply pw_below_drewN | apply below_drew1 | refine below_set ?_ GE159.out | refine below_set ?_ GE163.out) | exact HB.out)⟩
           ·rw [if_neg c22] at H
            have c22b0 : decide (0 ≤ t169) = false := decide_eq_false c22
            clear c22
            have H' := Aside0.mk H
            clear H
            have p162 : 0 ≤ (x24_2 : Int) := of_decide_eq_true (by first | (with_reducible assumption) | assumption)
            have q162 : x24_2 < (l0_1.length : Int) := of_decide_eq_true (by first | (with_reducible assumption) | assumption)
            obtain ⟨ad162, A162_1, c162_1, e162, hx162_0, hx162_1, hl162_1, hi162_1⟩ := at_T53 HR0_1.out x24_2 p162 q162
            cases e162
            replace hx162_0 := (HB.out.cell (World.block_lt_of_cell? w _ hx162_0)).trans hx162_0
            replace hx162_1 := (HB.out.cell (World.block_lt_of_cell? w _ hx162_1)).trans hx162_1
            have HR162_1 := Aside0.mk hi162_1
            have HC162_1 := Aside0.mk hl162_1
            clear hi162_1 hl162_1
            replace p162 := eq_true p162
            replace q162 := eq_true q162
            try go_wp2_with (first | ((with_reducible refine gate_dst (N := 4) rfl ?_); (try (refine gate_guard (by rfl) ?_; dsimp only)); refine box_event ?hg (N := 4) ?hd (cs := #[.string (⟨#[]⟩ : ByteArray), .slice none 0 0]) (t := 53) ?hr ?_; (case hd => rfl); (case hg => rfl); (case hr => first | (go_simp; done) | (go_simp; rfl)); intro gb163 hg w31 hbox hb; have n0_ := Aside0.mk (blk_below (g := gb159) (o := .cells #[.string a0_0, .slice (some ad162) l0_1.length c0_1, .string a0_2] 32 (0, 0)) (by (with_reducible repeat (first | refine blk_drewN ?_ _ | refine blk_drew ?_ | refine blk_alloc ?_ _)); exact BK159.out) hb); have n1_ := Aside0.mk (below_step (by repeat (first | (with_reducible first | exact HB.out | apply below_alloc | apply pw_below_drewN | apply below_drew1 | refine below_set ?_ GE159.out) | exact HB.out)) hb); have n2_ := Aside0.mk (hbox); have n3_ := Aside0.mk ((by rw [hg]; exact (below_size (by repeat (first | (with_reducible first | exact HB.out | apply below_alloc | apply pw_below_drewN | apply below_drew1 | refine below_set ?_ GE159.out) | exact HB.out))) : w.heap.size ≤ gb163)); have n4_ := Aside0.mk ((by rw [hg]; exact (below_size (by repeat (first | (with_reducible first | exact HB.out | apply below_alloc | apply pw_below_drewN | apply below_drew1 | refine below_set ?_ GE159.out) | exact HB.out))) : w.heap.size ≤ gb163)); have n5_ := Aside0.mk ((by rw [hg]; exact Nat.ne_of_lt (blk_lt (g := gb159) (o := .cells #[.string a0_0, .slice (some ad162) l0_1.length c0_1, .string a0_2] 32 (0, 0)) (by (with_reducible repeat (first | refine blk_drewN ?_ _ | refine blk_drew ?_ | refine blk_alloc ?_ _)); exact BK159.out)) : gb159 ≠ gb163)); have n6_ := Aside0.mk ((by rw [hg]; exact Nat.ne_of_gt (blk_lt (g := gb159) (o := .cells #[.string a0_0, .slice (some ad162) l0_1.length c0_1, .string a0_2] 32 (0, 0)) (by (with_reducible repeat (first | refine blk_drewN ?_ _ | refine blk_drew ?_ | refine blk_alloc ?_ _)); exact BK159.out)) : gb163 ≠ gb159)); clear BK159; clear HB; have BK159 := n0_; have HB := n1_; have BK163 := n2_; have GW163 := n3_; have GE163 := n4_; have NB159_163 := n5_; have NB163_159 := n6_; clear n0_ n1_ n2_ n3_ n4_ n5_ n6_; clear hb hbox hg; have hnb32 := NB163_159.out; have hnc32 := NB159_163.out; have hcz33_0 : w31.cell? ⟨gb163, 0, none⟩ = some (.string (⟨#[]⟩ : ByteArray)) := (blk_cell BK163.out 0).trans rfl; have hcz33_1 : w31.cell? ⟨gb163, 1, none⟩ = some (.slice none 0 0) := (blk_cell BK163.out 1).trans rfl; have hfz33_0 := blk_frozen BK163.out 0; have hfz33_1 := blk_frozen BK163.out 1))
            have n0_ : Aside0 (((w31.setCell ⟨gb163, 0, none⟩ (.string ((rd_T53 l0_1 x24_2).f0))).setCell ⟨gb163, 1, none⟩ (.slice A162_1 ((rd_T53 l0_1 x24_2).f1).length c162_1)).heap[gb159]? = some (.cells #[.string a0_0, .slice (some ad162) l0_1.length c0_1, .string a0_2] 32 (0, 0))) := ⟨by (with_reducible repeat (first | refine blk_drewN ?_ _ | refine blk_drew ?_ | refine blk_alloc ?_ _)); refine blk_far ?_ NB159_163.out _; (with_reducible repeat (first | refine blk_drewN ?_ _ | refine blk_drew ?_ | refine blk_alloc ?_ _)); refine blk_far ?_ NB159_163.out _; (with_reducible repeat (first | refine blk_drewN ?_ _ | refine blk_drew ?_ | refine blk_alloc ?_ _)); exact BK159.out⟩
            have n1_ : Aside0 (((w31.setCell ⟨gb163, 0, none⟩ (.string ((rd_T53 l0_1 x24_2).f0))).setCell ⟨gb163, 1, none⟩ (.slice A162_1 ((rd_T53 l0_1 x24_2).f1).length c162_1)).heap[gb163]? = some (.cells #[.string ((rd_T53 l0_1 x24_2).f0), .slice A162_1 ((rd_T53 l0_1 x24_2).f1).length c162_1] 53 (0, 0))) := ⟨by (with_reducible repeat (first | refine blk_drewN ?_ _ | refine blk_drew ?_ | refine blk_alloc ?_ _)); refine blk_put (cs := #[.string ((rd_T53 l0_1 x24_2).f0), .slice none 0 0]) ?_ 1 _ rfl; (with_reducible repeat (first | refine blk_drewN ?_ _ | refine blk_drew ?_ | refine blk_alloc ?_ _)); refine blk_put (cs := #[.string (⟨#[]⟩ : ByteArray), .slice none 0 0]) ?_ 0 _ rfl; (with_reducible repeat (first | refine blk_drewN ?_ _ | refine blk_drew ?_ | refine blk_alloc ?_ _)); exact BK163.out⟩
            have n2_ : Aside0 (Below w.heap.size w ((w31.setCell ⟨gb163, 0, none⟩ (.string ((rd_T53 l0_1 x24_2).f0))).setCell ⟨gb163, 1, none⟩ (.slice A162_1 ((rd_T53 l0_1 x24_2).f1).length c162_1))) := ⟨by repeat (first | (with_reducible first | exact HB.out | apply below_alloc | apply pw_below_drewN | apply below_drew1 | refine below_set ?_ GE159.out | refine below_set ?_ GE163.out) | exact HB.out)⟩
            (try clear BK159)
            (try clear BK163)
            (try clear HB)
            generalize ((w31.setCell ⟨gb163, 0, none⟩ (.string ((rd_T53 l0_1 x24_2).f0))).setCell ⟨gb163, 1, none⟩ (.slice A162_1 ((rd_T53 l0_1 x24_2).f1).length c162_1)) = w34 at n0_ n1_ n2_ ⊢
            have BK159 := n0_
            have BK163 := n1_
            have HB := n2_
            clear n0_ n1_ n2_
            have n0_ := Aside0.mk (blk_drew BK159.out)
            have n1_ := Aside0.mk (blk_drew BK163.out)
            have n2_ := Aside0.mk (below_drew1 HB.out)
            clear BK159
            clear BK163
            clear HB
            have BK159 := n0_
            have BK163 := n1_
            have HB := n2_
            clear n0_ n1_ n2_
            refine start_ (n := 13) (S := fun w' => w'.cell? ⟨gb163, 0, none⟩ = some (.string ((rd_T53 l0_1 x24_2).f0)) ∧ w'.cell? ⟨gb163, 1, none⟩ = some (.slice A162_1 ((rd_T53 l0_1 x24_2).f1).length c162_1) ∧ w'.cell? ⟨gb159, 0, none⟩ = some (.string a0_0) ∧ w'.cell? ⟨gb159, 1, none⟩ = some (.slice (some ad162) l0_1.length c0_1) ∧ w'.cell? ⟨gb159, 2, none⟩ = some (.string a0_2)) (ds := []) #[false, false, false, false, false, false, false, false, false, false, false, false, false] (by kernel_rfl) rfl rfl ⟨(blk_cell BK163.out 0).trans rfl, (blk_cell BK163.out 1).trans rfl, (blk_cell BK159.out 0).trans rfl, (blk_cell BK159.out 1).trans rfl, (blk_cell BK159.out 2).trans rfl⟩ (fun hHeld => ?_); refine with_tabW line_Formed.tab6 line_Formed.bits6 (fun HT_ HW_ => ?_)
            generalize w34.drew = w35 at BK159 BK163 HB hHeld ⊢
            refine take_ (i := 0) (N := some 29) (v := ?_) (a' := ?_) #[true, false, false, false, false, false, false, false, false, false, false, false, false] rfl rfl (take_ofW HT_.out HW_.out (by kernel_rfl)) (fun _ _ _ h => h) (Or.inl ⟨by rfl, ?_⟩) hHeld ?_ ?_
            rotate_left
            ·rintro w' ⟨s0, s1, s2, s3, s4⟩
             go_simp
             with_reducible rfl
            rotate_left
            ·simp only [Act.put, List.setIfInBounds_toArray, List.set_cons_zero, List.set_cons_succ, i64_w, i32_w]
             rfl
            refine one_ (i := 1) (N := some 30) #[true, true, false, false, false, false, false, false, false, false, false, false, false] rfl rfl (one_of HT_.out (by kernel_rfl)) (by decide) (fun K hK => ?_)
            refine goes_ Tryz.func26 (by kernel_rfl) rfl #[.agg #[.string ((rd_T53 l0_1 x24_2).f0), .slice A162_1 ((rd_T53 l0_1 x24_2).f1).length c162_1]] (by rfl) rfl rfl (by (try simp only [List.map_toArray, List.map_cons, List.map_nil]); first | done | rfl | (simp only [List.length_drop, List.length_take]; rfl)) ?_
            with_reducible refine (line_Param_formed.calls k2 ((rd_T53 l0_1 x24_2).f0) _ _ ((rd_T53 l0_1 x24_2).f1) true _ (by first | (with_reducible exact hG) | exact GG.below hG (by repeat (first | (with_reducible first | exact HB.out | apply below_alloc | apply pw_below_drewN | apply below_drew1 | refine below_set ?_ GE159.out | refine below_set ?_ GE163.out) | exact HB.out))) ?side1 ?side2 A17.out).mono ?_
            (case side1 => repeat (first | exact (Kd.C_below HR162_1.out HB.out) | (with_reducible refine Kd.C_alloc ?_ _) | (with_reducible refine Kd.C_drewN ?_ _) | (with_reducible refine Kd.C_drew ?_)))
            (case side2 => exact HC162_1.out)
            rintro e w36 ⟨rfl, hb⟩
            refine ⟨_, rfl, ?_⟩
            have n0_ := Aside0.mk (blk_below (g := gb159) (o := .cells #[.string a0_0, .slice (some ad162) l0_1.length c0_1, .string a0_2] 32 (0, 0)) (by (with_reducible repeat (first | refine blk_drewN ?_ _ | refine blk_drew ?_ | refine blk_alloc ?_ _)); exact BK159.out) hb)
            have n1_ := Aside0.mk (blk_below (g := gb163) (o := .cells #[.string ((rd_T53 l0_1 x24_2).f0), .slice A162_1 ((rd_T53 l0_1 x24_2).f1).length c162_1] 53 (0, 0)) (by (with_reducible repeat (first | refine blk_drewN ?_ _ | refine blk_drew ?_ | refine blk_alloc ?_ _)); exact BK163.out) hb)
            have n2_ := Aside0.mk (below_step (by repeat (first | (with_reducible first | exact HB.out | apply below_alloc | apply pw_below_drewN | apply below_drew1 | refine below_set ?_ GE159.out | refine below_set ?_ GE163.out) | exact HB.out)) hb)
            clear BK159
            clear BK163
            clear HB
            have BK159 := n0_
            have BK163 := n1_
            have HB := n2_
            clear n0_ n1_ n2_
            (try clear hb)
            (try clear hb2)
            (try clear hk)
            (try clear hi)
            have q37 : (x24_2 : Int) ≤ ((l0_1.length : Int) : Int) := of_decide_eq_true (by first | (with_reducible assumption) | assumption)
            obtain ⟨i037, hi037, _, hsz37, _⟩ := info_parts info53
            have hroom37 : l0_1.length ≤ c0_1 := HC0_1.out
            have hC37 : Kd.C k53 _ (some ad162) l0_1.length l0_1 := HR0_1.out
            have hcut37 := cut_to (P := Tryz.prog) 30 53 .i64 Tryz.underlying30 hi037 (some ad162) l0_1.length c0_1 x24_2 (of_decide_eq_true (by first | (with_reducible assumption) | assumption)) q37 hroom37
            have hr37 := Kd.C_take (m := (x24_2 : Int).toNat) hC37 (by omega)
            have hy37 : y165.length = (x24_2 : Int).toNat := (by rw [Ny165.out, List.length_take]; omega)
            rw [← Ny165.out] at hr37
            rw [← hy37] at hcut37
            have HR168 := Aside0.mk hr37
            have HC168 := Aside0.mk (show y165.length ≤ c0_1 from by omega)
            clear hr37 hC37 hroom37 hi037 hsz37
            have KY37 := Aside0.mk hy37
            clear hy37
            replace q37 := eq_true q37
            refine hK.out _ _ ⟨(blk_cell BK163.out 0).trans rfl, (blk_cell BK163.out 1).trans rfl, (blk_cell BK159.out 0).trans rfl, (blk_cell BK159.out 1).trans rfl, (blk_cell BK159.out 2).trans rfl⟩ (fun hHeld => ?_)
            clear hK K
            refine norm_ (a' := ?_) ?_ ?_
            rotate_left
            ·show Act.put _ (some 30) _ = _
             simp only [Act.put, List.setIfInBounds_toArray, List.set_cons_zero, List.set_cons_succ, i64_w, i32_w]
             rfl
            refine pure_ (i := 2) (N := some 31) (v := ?_) (a' := ?_) #[true, true, true, false, false, false, false, false, false, false, false, false, false] rfl rfl (any_of HT_.out (by kernel_rfl)) (fun _ _ _ h => h) (Or.inl ⟨by rfl, ?_⟩) ?_ ?_
            rotate_left
            ·intro w'
             go_simp
             with_reducible rfl
            rotate_left
            ·simp only [Act.put, List.setIfInBounds_toArray, List.set_cons_zero, List.set_cons_succ, i64_w, i32_w]
             rfl
            refine pure_ (i := 3) (N := some 32) (v := ?_) (a' := ?_) #[true, true, true, true, false, false, false, false, false, false, false, false, false] rfl rfl (any_of HT_.out (by kernel_rfl)) (fun _ _ _ h => h) (Or.inl ⟨by rfl, ?_⟩) ?_ ?_
            rotate_left
            ·intro w'
             go_simp
             with_reducible rfl
            rotate_left
            ·simp only [Act.put, List.setIfInBounds_toArray, List.set_cons_zero, List.set_cons_succ, i64_w, i32_w]
             rfl
            refine pure_ (i := 4) (N := some 33) (v := ?_) (a' := ?_) #[true, true, true, true, true, false, false, false, false, false, false, false, false] rfl rfl (any_of HT_.out (by kernel_rfl)) (fun _ _ _ h => h) (Or.inl ⟨by rfl, ?_⟩) ?_ ?_
            rotate_left
            ·intro w'
             go_simp
             with_reducible rfl
            rotate_left
            ·simp only [Act.put, List.setIfInBounds_toArray, List.set_cons_zero, List.set_cons_succ, i64_w, i32_w]
             rfl
            refine pure_ (i := 6) (N := some 35) (v := ?_) (a' := ?_) #[true, true, true, true, true, false, true, false, false, false, false, false, false] rfl rfl (any_of HT_.out (by kernel_rfl)) (fun _ _ _ h => h) (Or.inl ⟨by rfl, ?_⟩) ?_ ?_
            rotate_left
            ·intro w'
             go_simp
             with_reducible rfl
            rotate_left
            ·simp only [Act.put, List.setIfInBounds_toArray, List.set_cons_zero, List.set_cons_succ, i64_w, i32_w]
             rfl
            refine pure_ (i := 8) (N := some 37) (v := ?_) (a' := ?_) #[true, true, true, true, true, false, true, false, true, false, false, false, false] rfl rfl (any_of HT_.out (by kernel_rfl)) (fun _ _ _ h => h) (Or.inl ⟨by rfl, ?_⟩) ?_ ?_
            rotate_left
            ·intro w'
             go_simp
             with_reducible rfl
            rotate_left
            ·simp only [Act.put, List.setIfInBounds_toArray, List.set_cons_zero, List.set_cons_succ, i64_w, i32_w]
             rfl
            refine take_ (i := 5) (N := some 34) (v := ?_) (a' := ?_) #[true, true, true, true, true, true, true, false, true, false, false, false, false] rfl rfl (take_ofW HT_.out HW_.out (by kernel_rfl)) (fun _ _ _ h => h) (Or.inl ⟨by rfl, ?_⟩) hHeld ?_ ?_
            rotate_left
            ·rintro w' ⟨s0, s1, s2, s3, s4⟩
             go_simp
             with_reducible rfl
            rotate_left
            ·simp only [Act.put, List.setIfInBounds_toArray, List.set_cons_zero, List.set_cons_succ, i64_w, i32_w]
             rfl
            refine pure_ (i := 7) (N := some 36) (v := ?_) (a' := ?_) #[true, true, true, true, true, true, true, true, true, false, false, false, false] rfl rfl (any_of HT_.out (by kernel_rfl)) (fun _ _ _ h => h) (Or.inl ⟨by rfl, ?_⟩) ?_ ?_
            rotate_left
            ·intro w'
             go_simp
             with_reducible rfl
            rotate_left
            ·simp only [Act.put, List.setIfInBounds_toArray, List.set_cons_zero, List.set_cons_succ, i64_w, i32_w]
             rfl
            refine take_ (i := 9) (N := some 38) (v := ?_) (a' := ?_) #[true, true, true, true, true, true, true, true, true, true, false, false, false] rfl rfl (take_ofW HT_.out HW_.out (by kernel_rfl)) (fun _ _ _ h => h) (Or.inl ⟨by rfl, ?_⟩) hHeld ?_ ?_
            rotate_left
            ·rintro w' ⟨s0, s1, s2, s3, s4⟩
             go_simp
             with_reducible rfl
            rotate_left
            ·simp only [Act.put, List.setIfInBounds_toArray, List.set_cons_zero, List.set_cons_succ, i64_w, i32_w]
             rfl
            refine one_ (i := 10) (N := some 39) #[true, true, true, true, true, true, true, true, true, true, true, false, false] rfl rfl (one_of HT_.out (by kernel_rfl)) (by decide) (fun K hK => ?_)
            refine goes_ Tryz.func27 (by kernel_rfl) rfl #[.slice (some ad162) y165.length c0_1, .string ((rd_T53 l0_1 x24_2).f0)] (by rfl) rfl rfl (by (try simp only [List.map_toArray, List.map_cons, List.map_nil]); first | done | rfl | (simp only [List.length_drop, List.length_take]; rfl)) ?_
            with_reducible refine (line_at.calls _ _ y165 ((rd_T53 l0_1 x24_2).f0) t169 _ (by first | (with_reducible exact hG) | exact GG.below hG (by repeat (first | (with_reducible first | exact HB.out | apply below_alloc | apply pw_below_drewN | apply below_drew1 | refine below_set ?_ GE159.out | refine below_set ?_ GE163.out) | exact HB.out))) ?side1 ?side2 A21.out).mono ?_
            (case side1 => repeat (first | exact (Kd.C_below HR168.out HB.out) | (with_reducible refine Kd.C_alloc ?_ _) | (with_reducible refine Kd.C_drewN ?_ _) | (with_reducible refine Kd.C_drew ?_)))
            (case side2 => exact HC168.out)
            rintro e w38 ⟨rfl, hb⟩
            refine ⟨_, rfl, ?_⟩
            have n0_ := Aside0.mk (blk_below (g := gb159) (o := .cells #[.string a0_0, .slice (some ad162) l0_1.length c0_1, .string a0_2] 32 (0, 0)) (by (with_reducible repeat (first | refine blk_drewN ?_ _ | refine blk_drew ?_ | refine blk_alloc ?_ _)); exact BK159.out) hb)
            have n1_ := Aside0.mk (blk_below (g := gb163) (o := .cells #[.string ((rd_T53 l0_1 x24_2).f0), .slice A162_1 ((rd_T53 l0_1 x24_2).f1).length c162_1] 53 (0, 0)) (by (with_reducible repeat (first | refine blk_drewN ?_ _ | refine blk_drew ?_ | refine blk_alloc ?_ _)); exact BK163.out) hb)
            have n2_ := Aside0.mk (below_step (by repeat (first | (with_reducible first | exact HB.out | apply below_alloc | apply pw_below_drewN | apply below_drew1 | refine below_set ?_ GE159.out | refine below_set ?_ GE163.out) | exact HB.out)) hb)
            clear BK159
            clear BK163
            clear HB
            have BK159 := n0_
            have BK163 := n1_
            have HB := n2_
            clear n0_ n1_ n2_
            (try clear hb)
            (try clear hb2)
            (try clear hk)
            (try clear hi)
            refine hK.out _ _ ⟨(blk_cell BK163.out 0).trans rfl, (blk_cell BK163.out 1).trans rfl, (blk_cell BK159.out 0).trans rfl, (blk_cell BK159.out 1).trans rfl, (blk_cell BK159.out 2).trans rfl⟩ (fun hHeld => ?_)
            clear hK K
            refine norm_ (a' := ?_) ?_ ?_
            rotate_left
            ·show Act.put _ (some 39) _ = _
             simp only [Act.put, List.setIfInBounds_toArray, List.set_cons_zero, List.set_cons_succ, i64_w, i32_w]
             rfl
            refine pure_ (i := 11) (N := some 40) (v := ?_) (a' := ?_) #[true, true, true, true, true, true, true, true, true, true, true, true, false] rfl rfl (any_of HT_.out (by kernel_rfl)) (fun _ _ _ h => h) (Or.inl ⟨by rfl, ?_⟩) ?_ ?_
            rotate_left
            ·intro w'
             go_simp
             with_reducible rfl
            rotate_left
            ·simp only [Act.put, List.setIfInBounds_toArray, List.set_cons_zero, List.set_cons_succ, i64_w, i32_w]
             rfl
            refine pure_ (i := 12) (N := some 41) (v := ?_) (a' := ?_) #[true, true, true, true, true, true, true, true, true, true, true, true, true] rfl rfl (any_of HT_.out (by kernel_rfl)) (fun _ _ _ h => h) (Or.inl ⟨by rfl, ?_⟩) ?_ ?_
            rotate_left
            ·intro w'
             go_simp
             with_reducible rfl
            rotate_left
            ·simp only [Act.put, List.setIfInBounds_toArray, List.set_cons_zero, List.set_cons_succ, i64_w, i32_w]
             rfl
            refine done_ (done_of HT_.out (by kernel_rfl)) ?_
            try go_wp2
            go_roundg k2
            case measure => have := HJ1.out; have := HK2.out; omega
            case rel => exact ⟨(wrap64 (x24_2 + 1)), (by first | rfl | (simp; done) | (simp [bne_nil_isEmpty, beq_nil_isEmpty]; done) | (simp [*]; done)), H', ⟨by have := HJ1.out; have := HK2.out; omega⟩, ⟨by (with_reducible repeat (first | refine blk_drewN ?_ _ | refine blk_drew ?_ | refine blk_alloc ?_ _)); exact BK159.out⟩, ⟨by repeat (first | (with_reducible first | exact HB.out | apply below_alloc | apply pw_below_drewN | apply below_drew1 | refine below_set ?_ GE159.out | refine below_set ?_ GE163.out) | exact HB.out)⟩⟩
          ·rw [if_neg c20] at H
           exact absurd H (by simp)
         ·replace c18 := Bool.eq_false_iff.mpr c18
          subst c18
          rw [if_neg (show ¬ (false = true) by decide)] at H
          obtain rfl := Option.some.inj H
          have p162 : 0 ≤ (x24_2 : Int) := of_decide_eq_true (by first | (with_reducible assumption) | assumption)
          have q162 : x24_2 < (l0_1.length : Int) := of_decide_eq_true (by first | (with_reducible assumption) | assumption)
          obtain ⟨ad162, A162_1, c162_1, e162, hx162_0, hx162_1, hl162_1, hi162_1⟩ := at_T53 HR0_1.out x24_2 p162 q162
          cases e162
          replace hx162_0 := (HB.out.cell (World.block_lt_of_cell? w _ hx162_0)).trans hx162_0
          replace hx162_1 := (HB.out.cell (World.block_lt_of_cell? w _ hx162_1)).trans hx162_1
          have HR162_1 := Aside0.mk hi162_1
          have HC162_1 := Aside0.mk hl162_1
          clear hi162_1 hl162_1
          replace p162 := eq_true p162
          replace q162 := eq_true q162
          try go_wp2_with (first | ((with_reducible refine gate_dst (N := 4) rfl ?_); (try (refine gate_guard (by rfl) ?_; dsimp only)); refine box_event ?hg (N := 4) ?hd (cs := #[.string (⟨#[]⟩ : ByteArray), .slice none 0 0]) (t := 53) ?hr ?_; (case hd => rfl); (case hg => rfl); (case hr => first | (go_simp; done) | (go_simp; rfl)); intro gb163 hg w39 hbox hb; have n0_ := Aside0.mk (blk_below (g := gb159) (o := .cells #[.string a0_0, .slice (some ad162) l0_1.length c0_1, .string a0_2] 32 (0, 0)) (by (with_reducible repeat (first | refine blk_drewN ?_ _ | refine blk_drew ?_ | refine blk_alloc ?_ _)); exact BK159.out) hb); have n1_ := Aside0.mk (below_step (by repeat (first | (with_reducible first | exact HB.out | apply below_alloc | apply pw_below_drewN | apply below_drew1 | refine below_set ?_ GE159.out) | exact HB.out)) hb); have n2_ := Aside0.mk (hbox); have n3_ := Aside0.mk ((by rw [hg]; exact (below_size (by repeat (first | (with_reducible first | exact HB.out | apply below_alloc | apply pw_below_drewN | apply below_drew1 | refine below_set ?_ GE159.out) | exact HB.out))) : w.heap.size ≤ gb163)); have n4_ := Aside0.mk ((by rw [hg]; exact (below_size (by repeat (first | (with_reducible first | exact HB.out | apply below_alloc | apply pw_below_drewN | apply below_drew1 | refine below_set ?_ GE159.out) | exact HB.out))) : w.heap.size ≤ gb163)); have n5_ := Aside0.mk ((by rw [hg]; exact Nat.ne_of_lt (blk_lt (g := gb159) (o := .cells #[.string a0_0, .slice (some ad162) l0_1.length c0_1, .string a0_2] 32 (0, 0)) (by (with_reducible repeat (first | refine blk_drewN ?_ _ | refine blk_drew ?_ | refine blk_alloc ?_ _)); exact BK159.out)) : gb159 ≠ gb163)); have n6_ := Aside0.mk ((by rw [hg]; exact Nat.ne_of_gt (blk_lt (g := gb159) (o := .cells #[.string a0_0, .slice (some ad162) l0_1.length c0_1, .string a0_2] 32 (0, 0)) (by (with_reducible repeat (first | refine blk_drewN ?_ _ | refine blk_drew ?_ | refine blk_alloc ?_ _)); exact BK159.out)) : gb163 ≠ gb159)); clear BK159; clear HB; have BK159 := n0_; have HB := n1_; have BK163 := n2_; have GW163 := n3_; have GE163 := n4_; have NB159_163 := n5_; have NB163_159 := n6_; clear n0_ n1_ n2_ n3_ n4_ n5_ n6_; clear hb hbox hg; have hnb40 := NB163_159.out; have hnc40 := NB159_163.out; have hcz41_0 : w39.cell? ⟨gb163, 0, none⟩ = some (.string (⟨#[]⟩ : ByteArray)) := (blk_cell BK163.out 0).trans rfl; have hcz41_1 : w39.cell? ⟨gb163, 1, none⟩ = some (.slice none 0 0) := (blk_cell BK163.out 1).trans rfl; have hfz41_0 := blk_frozen BK163.out 0; have hfz41_1 := blk_frozen BK163.out 1))
          have n0_ : Aside0 (((w39.setCell ⟨gb163, 0, none⟩ (.string ((rd_T53 l0_1 x24_2).f0))).setCell ⟨gb163, 1, none⟩ (.slice A162_1 ((rd_T53 l0_1 x24_2).f1).length c162_1)).heap[gb159]? = some (.cells #[.string a0_0, .slice (some ad162) l0_1.length c0_1, .string a0_2] 32 (0, 0))) := ⟨by (with_reducible repeat (first | refine blk_drewN ?_ _ | refine blk_drew ?_ | refine blk_alloc ?_ _)); refine blk_far ?_ NB159_163.out _; (with_reducible repeat (first | refine blk_drewN ?_ _ | refine blk_drew ?_ | refine blk_alloc ?_ _)); refine blk_far ?_ NB159_163.out _; (with_reducible repeat (first | refine blk_drewN ?_ _ | refine blk_drew ?_ | refine blk_alloc ?_ _)); exact BK159.out⟩
          have n1_ : Aside0 (((w39.setCell ⟨gb163, 0, none⟩ (.string ((rd_T53 l0_1 x24_2).f0))).setCell ⟨gb163, 1, none⟩ (.slice A162_1 ((rd_T53 l0_1 x24_2).f1).length c162_1)).heap[gb163]? = some (.cells #[.string ((rd_T53 l0_1 x24_2).f0), .slice A162_1 ((rd_T53 l0_1 x24_2).f1).length c162_1] 53 (0, 0))) := ⟨by (with_reducible repeat (first | refine blk_drewN ?_ _ | refine blk_drew ?_ | refine blk_alloc ?_ _)); refine blk_put (cs := #[.string ((rd_T53 l0_1 x24_2).f0), .slice none 0 0]) ?_ 1 _ rfl; (with_reducible repeat (first | refine blk_drewN ?_ _ | refine blk_drew ?_ | refine blk_alloc ?_ _)); refine blk_put (cs := #[.string (⟨#[]⟩ : ByteArray), .slice none 0 0]) ?_ 0 _ rfl; (with_reducible repeat (first | refine blk_drewN ?_ _ | refine blk_drew ?_ | refine blk_alloc ?_ _)); exact BK163.out⟩
          have n2_ : Aside0 (Below w.heap.size w ((w39.setCell ⟨gb163, 0, none⟩ (.string ((rd_T53 l0_1 x24_2).f0))).setCell ⟨gb163, 1, none⟩ (.slice A162_1 ((rd_T53 l0_1 x24_2).f1).length c162_1))) := ⟨by repeat (first | (with_reducible first | exact HB.out | apply below_alloc | apply pw_below_drewN | apply below_drew1 | refine below_set ?_ GE159.out | refine below_set ?_ GE163.out) | exact HB.out)⟩
          (try clear BK159)
          (try clear BK163)
          (try clear HB)
          generalize ((w39.setCell ⟨gb163, 0, none⟩ (.string ((rd_T53 l0_1 x24_2).f0))).setCell ⟨gb163, 1, none⟩ (.slice A162_1 ((rd_T53 l0_1 x24_2).f1).length c162_1)) = w42 at n0_ n1_ n2_ ⊢
          have BK159 := n0_
          have BK163 := n1_
          have HB := n2_
          clear n0_ n1_ n2_
          have n0_ := Aside0.mk (blk_drew BK159.out)
          have n1_ := Aside0.mk (blk_drew BK163.out)
          have n2_ := Aside0.mk (below_drew1 HB.out)
          clear BK159
          clear BK163
          clear HB
          have BK159 := n0_
          have BK163 := n1_
          have HB := n2_
          clear n0_ n1_ n2_
          refine start_ (n := 13) (S := fun w' => w'.cell? ⟨gb163, 0, none⟩ = some (.string ((rd_T53 l0_1 x24_2).f0)) ∧ w'.cell? ⟨gb163, 1, none⟩ = some (.slice A162_1 ((rd_T53 l0_1 x24_2).f1).length c162_1)) (ds := []) #[false, false, false, false, false, false, false, false, false, false, false, false, false] (by kernel_rfl) rfl rfl ⟨(blk_cell BK163.out 0).trans rfl, (blk_cell BK163.out 1).trans rfl⟩ (fun hHeld => ?_); refine with_tabW line_Formed.tab6 line_Formed.bits6 (fun HT_ HW_ => ?_)
          generalize w42.drew = w43 at BK159 BK163 HB hHeld ⊢
          refine take_ (i := 0) (N := some 29) (v := ?_) (a' := ?_) #[true, false, false, false, false, false, false, false, false, false, false, false, false] rfl rfl (take_ofW HT_.out HW_.out (by kernel_rfl)) (fun _ _ _ h => h) (Or.inl ⟨by rfl, ?_⟩) hHeld ?_ ?_
          rotate_left
          ·rintro w' ⟨s0, s1⟩
           go_simp
           with_reducible rfl
          rotate_left
          ·simp only [Act.put, List.setIfInBounds_toArray, List.set_cons_zero, List.set_cons_succ, i64_w, i32_w]
           rfl
          refine one_ (i := 1) (N := some 30) #[true, true, false, false, false, false, false, false, false, false, false, false, false] rfl rfl (one_of HT_.out (by kernel_rfl)) (by decide) (fun K hK => ?_)
          refine goes_ Tryz.func26 (by kernel_rfl) rfl #[.agg #[.string ((rd_T53 l0_1 x24_2).f0), .slice A162_1 ((rd_T53 l0_1 x24_2).f1).length c162_1]] (by rfl) rfl rfl (by (try simp only [List.map_toArray, List.map_cons, List.map_nil]); first | done | rfl | (simp only [List.length_drop, List.length_take]; rfl)) ?_
          with_reducible refine (line_Param_formed.calls k2 ((rd_T53 l0_1 x24_2).f0) _ _ ((rd_T53 l0_1 x24_2).f1) false _ (by first | (with_reducible exact hG) | exact GG.below hG (by repeat (first | (with_reducible first | exact HB.out | apply below_alloc | apply pw_below_drewN | apply below_drew1 | refine below_set ?_ GE159.out | refine below_set ?_ GE163.out) | exact HB.out))) ?side1 ?side2 A17.out).mono ?_
          (case side1 => repeat (first | exact (Kd.C_below HR162_1.out HB.out) | (with_reducible refine Kd.C_alloc ?_ _) | (with_reducible refine Kd.C_drewN ?_ _) | (with_reducible refine Kd.C_drew ?_)))
          (case side2 => exact HC162_1.out)
          rintro e w44 ⟨rfl, hb⟩
          refine ⟨_, rfl, ?_⟩
          have n0_ := Aside0.mk (blk_below (g := gb159) (o := .cells #[.string a0_0, .slice (some ad162) l0_1.length c0_1, .string a0_2] 32 (0, 0)) (by (with_reducible repeat (first | refine blk_drewN ?_ _ | refine blk_drew ?_ | refine blk_alloc ?_ _)); exact BK159.out) hb)
          have n1_ := Aside0.mk (blk_below (g := gb163) (o := .cells #[.string ((rd_T53 l0_1 x24_2).f0), .slice A162_1 ((rd_T53 l0_1 x24_2).f1).length c162_1] 53 (0, 0)) (by (with_reducible repeat (first | refine blk_drewN ?_ _ | refine blk_drew ?_ | refine blk_alloc ?_ _)); exact BK163.out) hb)
          have n2_ := Aside0.mk (below_step (by repeat (first | (with_reducible first | exact HB.out | apply below_alloc | apply pw_below_drewN | apply below_drew1 | refine below_set ?_ GE159.out | refine below_set ?_ GE163.out) | exact HB.out)) hb)
          clear BK159
          clear BK163
          clear HB
          have BK159 := n0_
          have BK163 := n1_
          have HB := n2_
          clear n0_ n1_ n2_
          (try clear hb)
          (try clear hb2)
          (try clear hk)
          (try clear hi)
          refine hK.out _ _ ⟨(blk_cell BK163.out 0).trans rfl, (blk_cell BK163.out 1).trans rfl⟩ (fun hHeld => ?_)
          clear hK K
          refine norm_ (a' := ?_) ?_ ?_
          rotate_left
          ·show Act.put _ (some 30) _ = _
           simp only [Act.put, List.setIfInBounds_toArray, List.set_cons_zero, List.set_cons_succ, i64_w, i32_w]
           rfl
          refine pure_ (i := 2) (N := some 31) (v := ?_) (a' := ?_) #[true, true, true, false, false, false, false, false, false, false, false, false, false] rfl rfl (any_of HT_.out (by kernel_rfl)) (fun _ _ _ h => h) (Or.inl ⟨by rfl, ?_⟩) ?_ ?_
          rotate_left
          ·intro w'
           go_simp
           with_reducible rfl
          rotate_left
          ·simp only [Act.put, List.setIfInBounds_toArray, List.set_cons_zero, List.set_cons_succ, i64_w, i32_w]
           rfl
          refine pure_ (i := 3) (N := some 32) (v := ?_) (a' := ?_) #[true, true, true, true, false, false, false, false, false, false, false, false, false] rfl rfl (any_of HT_.out (by kernel_rfl)) (fun _ _ _ h => h) (Or.inl ⟨by rfl, ?_⟩) ?_ ?_
          rotate_left
          ·intro w'
           go_simp
           with_reducible rfl
          rotate_left
          ·simp only [Act.put, List.setIfInBounds_toArray, List.set_cons_zero, List.set_cons_succ, i64_w, i32_w]
           rfl
          refine pure_ (i := 4) (N := some 33) (v := undef) (a' := ?_) #[true, true, true, true, true, false, false, false, false, false, false, false, false] rfl rfl (any_of HT_.out (by kernel_rfl)) (fun _ _ _ h => h) (Or.inr ⟨by rfl, rfl⟩) ?_ ?_
          rotate_left
          ·simp only [Act.put, List.setIfInBounds_toArray, List.set_cons_zero, List.set_cons_succ, i64_w, i32_w]
           rfl
          refine pure_ (i := 5) (N := some 34) (v := undef) (a' := ?_) #[true, true, true, true, true, true, false, false, false, false, false, false, false] rfl rfl (any_of HT_.out (by kernel_rfl)) (fun _ _ _ h => h) (Or.inr ⟨by rfl, rfl⟩) ?_ ?_
          rotate_left
          ·simp only [Act.put, List.setIfInBounds_toArray, List.set_cons_zero, List.set_cons_succ, i64_w, i32_w]
           rfl
          refine pure_ (i := 6) (N := some 35) (v := undef) (a' := ?_) #[true, true, true, true, true, true, true, false, false, false, false, false, false] rfl rfl (any_of HT_.out (by kernel_rfl)) (fun _ _ _ h => h) (Or.inr ⟨by rfl, rfl⟩) ?_ ?_
          rotate_left
          ·simp only [Act.put, List.setIfInBounds_toArray, List.set_cons_zero, List.set_cons_succ, i64_w, i32_w]
           rfl
          refine pure_ (i := 7) (N := some 36) (v := undef) (a' := ?_) #[true, true, true, true, true, true, true, true, false, false, false, false, false] rfl rfl (any_of HT_.out (by kernel_rfl)) (fun _ _ _ h => h) (Or.inr ⟨by rfl, rfl⟩) ?_ ?_
          rotate_left
          ·simp only [Act.put, List.setIfInBounds_toArray, List.set_cons_zero, List.set_cons_succ, i64_w, i32_w]
           rfl
          refine pure_ (i := 8) (N := some 37) (v := undef) (a' := ?_) #[true, true, true, true, true, true, true, true, true, false, false, false, false] rfl rfl (any_of HT_.out (by kernel_rfl)) (fun _ _ _ h => h) (Or.inr ⟨by rfl, rfl⟩) ?_ ?_
          rotate_left
          ·simp only [Act.put, List.setIfInBounds_toArray, List.set_cons_zero, List.set_cons_succ, i64_w, i32_w]
           rfl
          refine pure_ (i := 9) (N := some 38) (v := undef) (a' := ?_) #[true, true, true, true, true, true, true, true, true, true, false, false, false] rfl rfl (any_of HT_.out (by kernel_rfl)) (fun _ _ _ h => h) (Or.inr ⟨by rfl, rfl⟩) ?_ ?_
          rotate_left
          ·simp only [Act.put, List.setIfInBounds_toArray, List.set_cons_zero, List.set_cons_succ, i64_w, i32_w]
           rfl
          refine pure_ (i := 10) (N := some 39) (v := undef) (a' := ?_) #[true, true, true, true, true, true, true, true, true, true, true, false, false] rfl rfl (any_of HT_.out (by kernel_rfl)) (fun _ _ _ h => h) (Or.inr ⟨by rfl, rfl⟩) ?_ ?_
          rotate_left
          ·simp only [Act.put, List.setIfInBounds_toArray, List.set_cons_zero, List.set_cons_succ, i64_w, i32_w]
           rfl
          refine pure_ (i := 11) (N := some 40) (v := undef) (a' := ?_) #[true, true, true, true, true, true, true, true, true, true, true, true, false] rfl rfl (any_of HT_.out (by kernel_rfl)) (fun _ _ _ h => h) (Or.inr ⟨by rfl, rfl⟩) ?_ ?_
          rotate_left
          ·simp only [Act.put, List.setIfInBounds_toArray, List.set_cons_zero, List.set_cons_succ, i64_w, i32_w]
           rfl
          refine pure_ (i := 12) (N := some 41) (v := ?_) (a' := ?_) #[true, true, true, true, true, true, true, true, true, true, true, true, true] rfl rfl (any_of HT_.out (by kernel_rfl)) (fun _ _ _ h => h) (Or.inl ⟨by rfl, ?_⟩) ?_ ?_
          rotate_left
          ·intro w'
           go_simp
           with_reducible rfl
          rotate_left
          ·simp only [Act.put, List.setIfInBounds_toArray, List.set_cons_zero, List.set_cons_succ, i64_w, i32_w]
           rfl
          refine done_ (done_of HT_.out (by kernel_rfl)) ?_
          try go_wp2
          go_ret
          exact ⟨by first | rfl | (simp [errW_none, errW_some] <;> rfl) | (simp [*, errW_none, errW_some] <;> rfl), by repeat (first | (with_reducible first | exact HB.out | apply below_alloc | apply pw_below_drewN | apply below_drew1 | refine below_set ?_ GE159.out | refine below_set ?_ GE163.out) | exact HB.out)⟩
        ·rw [if_neg c16] at H
         exact absurd H (by simp)
       ·rw [if_neg c15] at H
        exact absurd H (by simp)
      ·rw [if_neg c14] at H
       have c14b0 : decide (x24_2 < (l0_1.length : Int)) = false := decide_eq_false c14
       clear c14
       obtain rfl := Option.some.inj H
       go_wp2
       go_ret
       exact ⟨by first | rfl | (simp [errW_none, errW_some] <;> rfl) | (simp [*, errW_none, errW_some] <;> rfl), by repeat (first | (with_reducible first | exact HB.out | apply below_alloc | apply pw_below_drewN | apply below_drew1 | refine below_set ?_ GE159.out) | exact HB.out)⟩
end Go.Proofs.YtknmbalhbecdhaaGreatDoor.Print
end
section
set_option linter.unusedVariables false
set_option linter.unusedSimpArgs false
namespace Go.Proofs.YtknmbalhbecdhaaGreatDoor.Print
open Go.RowKit Go.Proofs.YtknmbalhbecdhaaGreatDoorW.PrintWords Go.Proofs.YtknmbalhbecdhaaGreatDoorW.PrintLast
/-- What a byte of a parameter's value is written as. -/
def parB (c : UInt8) : List UInt8 := if c = 94 then [94, 94] else if c = 10 then [94, 110] else if c = 34 then [94, 39] else [c]
def parT (l : List UInt8) : List UInt8 := l.flatMap parB
theorem parB_le (c : UInt8) : (parB c).length ≤ 2 := by unfold parB; split <;> (try split) <;> (try split) <;> simp
theorem parT_le (l : List UInt8) : (parT l).length ≤ 2 * l.length := by
  induction l with
  | nil => simp [parT]
  | cons c t ih => have := parB_le c; simp only [parT, List.flatMap_cons, List.length_append, List.length_cons] at *; omega
theorem parT_cons (c : UInt8) (t : List UInt8) : parT (c :: t) = parB c ++ parT t := by simp [parT]
/-- Bytes for which a value is quoted. -/
def quoB (c : UInt8) : Bool := c == 58 || c == 59 || c == 44
def parL (l : List UInt8) : List UInt8 := if l.any quoB = true then [34] ++ parT l ++ [34] else parT l
def parW (s : ByteArray) : ByteArray := ⟨(parL s.data.toList).toArray⟩
def escape_Param.f (k : Nat) (a0 : ByteArray) : Option (ByteArray × Int) := (escape_Clean.f k a0 true).bind fun e => if e = 0 then (if a0.size ≤ 2000000000 then some (parW a0, 0) else none) else some (⟨#[]⟩, e)
end Go.Proofs.YtknmbalhbecdhaaGreatDoor.Print
end
section
set_option linter.unusedVariables false
set_option linter.unusedSimpArgs false
namespace Go.Proofs.YtknmbalhbecdhaaGreatDoor.Print
open Go.RowKit Go.Proofs.YtknmbalhbecdhaaGreatDoorW.PrintWords Go.Proofs.YtknmbalhbecdhaaGreatDoorW.PrintLast
def subB (c : Nat) : Nat := if c = 94 then 94 else if c = 10 then 110 else 39
/-- The table of replacements, as build makes it. -/
structure RT (p : Nat) (w : World) : Prop where
  nils : ∀ c : Nat, c < 256 → c ≠ 94 → c ≠ 10 → c ≠ 34 → w.cell? ⟨p, c, none⟩ = some (.slice none 0 0)
  subs : ∀ c : Nat, c = 94 ∨ c = 10 ∨ c = 34 → ∃ q cap, w.cell? ⟨p, c, none⟩ = some (.slice (some ⟨q, 0, none⟩) 2 cap) ∧ 2 ≤ cap ∧ w.cell? ⟨q, 0, none⟩ = some (.int .u8 94) ∧ w.cell? ⟨q, 1, none⟩ = some (.int .u8 (subB c))
  list : ∃ t cap, w.cell? ⟨p, 256, none⟩ = some (.slice (some ⟨t, 0, none⟩) 3 cap) ∧ 3 ≤ cap ∧ w.cell? ⟨t, 0, none⟩ = some (.string ⟨#[34]⟩) ∧ w.cell? ⟨t, 1, none⟩ = some (.string ⟨#[10]⟩) ∧ w.cell? ⟨t, 2, none⟩ = some (.string ⟨#[94]⟩)
theorem cellLt {w : World} {a : Addr} {v : Value} (h : w.cell? a = some v) : a.block < w.heap.size := by
  rcases Nat.lt_or_ge a.block w.heap.size with h9 | h9
  · exact h9
  · simp [World.cell?, Array.getElem?_eq_none h9] at h
theorem RT.under {p : Nat} {w w' : World} (h : RT p w) (hb : Below w.heap.size w w') : RT p w' := by
  refine ⟨fun c h0 h1 h2 h3 => ?_, fun c hc => ?_, ?_⟩
  · have := h.nils c h0 h1 h2 h3; exact (hb.cell (cellLt this)).trans this
  · obtain ⟨q, cap, a1, a2, a3, a4⟩ := h.subs c hc
    exact ⟨q, cap, (hb.cell (cellLt a1)).trans a1, a2, (hb.cell (cellLt a3)).trans a3, (hb.cell (cellLt a4)).trans a4⟩
  · obtain ⟨t, cap, a1, a2, a3, a4, a5⟩ := h.list
    exact ⟨t, cap, (hb.cell (cellLt a1)).trans a1, a2, (hb.cell (cellLt a3)).trans a3, (hb.cell (cellLt a4)).trans a4, (hb.cell (cellLt a5)).trans a5⟩
def isS (c : UInt8) : Bool := c == 94 || c == 10 || c == 34
theorem parB_len (c : UInt8) : (parB c).length = if isS c = true then 2 else 1 := by
  unfold parB isS
  by_cases h1 : c = 94
  · subst h1; rfl
  by_cases h2 : c = 10
  · subst h2; rfl
  by_cases h3 : c = 34
  · subst h3; rfl
  rw [if_neg h1, if_neg h2, if_neg h3, if_neg (by simp [h1, h2, h3])]; rfl
theorem parT_snoc (l : List UInt8) (c : UInt8) : parT (l ++ [c]) = parT l ++ parB c := by simp [parT]
theorem parB_no (c : UInt8) (h : isS c = false) : parB c = [c] := by
  unfold isS at h
  simp only [Bool.or_eq_false_iff, beq_eq_false_iff_ne] at h
  unfold parB
  rw [if_neg h.1.1, if_neg h.1.2, if_neg h.2]
theorem parT_no : ∀ (l : List UInt8), l.any isS = false → parT l = l
  | [], _ => rfl
  | c :: t, h => by
    rw [List.any_cons, Bool.or_eq_false_iff] at h
    rw [parT_cons, parB_no c h.1, parT_no t h.2]; rfl
theorem ba_of (s : ByteArray) : (⟨s.data.toList.toArray⟩ : ByteArray) = s := by cases s; simp
theorem i8ex : (Tryz.prog.info? 5).map (fun i => (i.zero, i.size, i.bytes)) = some (some (.int .u8 0), 1, 1) := by kernel_rfl
structure I8 (i : TypeInfo) : Prop where
  hi : Tryz.prog.info? 5 = some i
  hz : i.zero = some (.int .u8 0)
  hs : i.size = 1
  hb : i.bytes = 1
theorem i8 : ∃ i, I8 i := by
  obtain ⟨i, hi, h⟩ := Option.map_eq_some_iff.1 i8ex
  simp only [Prod.mk.injEq] at h
  exact ⟨i, hi, h.1, h.2.1, h.2.2⟩
theorem cell_blk {w : World} {g : Nat} {cs : Array Value} {t : TypeId} {fr : Nat × Nat} (h : w.heap[g]? = some (.cells cs t fr)) (j : Nat) : w.cell? ⟨g, j, none⟩ = cs[j]? := by simp [World.cell?, h]
theorem froz_blk {w : World} {g : Nat} {cs : Array Value} {t : TypeId} (h : w.heap[g]? = some (.cells cs t (0, 0))) (j : Nat) : w.frozen? ⟨g, j, none⟩ = false := by simp [World.frozen?, h]
theorem row_put (cur : Array Value) (L M : List UInt8) (n : Nat) (hsz : cur.size = n) (hL : ∀ x, x < L.length → cur[x]? = some (.int .u8 (((L.getD x 0).toNat : Nat) : Int))) (hfit : L.length + M.length ≤ n) :
    (cur.toList.take L.length ++ M.map (fun b => Value.int .u8 ((b.toNat : Nat) : Int)) ++ cur.toList.drop (L.length + M.length)).toArray.size = n ∧
    ∀ x, x < (L ++ M).length → (cur.toList.take L.length ++ M.map (fun b => Value.int .u8 ((b.toNat : Nat) : Int)) ++ cur.toList.drop (L.length + M.length)).toArray[x]? = some (.int .u8 ((((L ++ M).getD x 0).toNat : Nat) : Int)) := by
  have hl : cur.toList.length = n := by rw [Array.length_toList]; exact hsz
  refine ⟨by rw [List.size_toArray]; simp only [List.length_append, List.length_take, List.length_map, List.length_drop]; omega, fun x hx => ?_⟩
  rw [List.length_append] at hx
  rw [List.getElem?_toArray, List.append_assoc]
  by_cases h : x < L.length
  · rw [List.getElem?_append_left (by rw [List.length_take]; omega), List.getElem?_take_of_lt h, Array.getElem?_toList, hL x h, List.getD_eq_getElem?_getD, List.getD_eq_getElem?_getD, List.getElem?_append_left h]
  · have h2 : (cur.toList.take L.length).length = L.length := by rw [List.length_take]; omega
    have hm : x - L.length < M.length := by omega
    rw [List.getElem?_append_right (by omega), h2, List.getElem?_append_left (by rw [List.length_map]; exact hm), List.getElem?_map, List.getD_eq_getElem?_getD, List.getElem?_append_right (by omega), List.getElem?_eq_getElem hm]
    rfl
theorem row_set (cur : Array Value) (L : List UInt8) (c : UInt8) (n : Nat) (hsz : cur.size = n) (hL : ∀ x, x < L.length → cur[x]? = some (.int .u8 (((L.getD x 0).toNat : Nat) : Int))) (hfit : L.length + 1 ≤ n) :
    (cur.setIfInBounds L.length (.int .u8 ((c.toNat : Nat) : Int))).size = n ∧ ∀ x, x < (L ++ [c]).length → (cur.setIfInBounds L.length (.int .u8 ((c.toNat : Nat) : Int)))[x]? = some (.int .u8 ((((L ++ [c]).getD x 0).toNat : Nat) : Int)) := by
  refine ⟨by rw [Array.size_setIfInBounds]; exact hsz, fun x hx => ?_⟩
  rw [List.length_append, List.length_cons, List.length_nil] at hx
  by_cases h : x < L.length
  · rw [Array.getElem?_setIfInBounds_ne (by omega), hL x h, List.getD_eq_getElem?_getD, List.getD_eq_getElem?_getD, List.getElem?_append_left h]
  · obtain rfl : x = L.length := by omega
    rw [Array.getElem?_setIfInBounds_self_of_lt (by omega), List.getD_eq_getElem?_getD, List.getElem?_append_right (Nat.le_refl _), Nat.sub_self]
    rfl
theorem blkSet {w : World} {g : Nat} {t : TypeId} {cs : Array Value} (h : w.heap[g]? = some (.cells cs t (0, 0))) (i : Nat) (u : Value) : (w.setCell ⟨g, i, none⟩ u).heap[g]? = some (.cells (cs.setIfInBounds i u) t (0, 0)) := by
  simp [World.setCell, Array.getElem?_modify, h]
theorem neq_nil (w : World) : (binOp .neq 46 (.slice none 0 0) (.slice none 0 0)).run Tryz.prog w = .ok (.bool false) w := by kernel_rfl
theorem neq_some (q : Addr) (n c : Nat) (w : World) : (binOp .neq 46 (.slice (some q) n c) (.slice none 0 0)).run Tryz.prog w = .ok (.bool true) w := by kernel_rfl
set_option maxHeartbeats 4000000 in
set_option maxRecDepth 100000 in
theorem bsr_short (p : Nat) (s : ByteArray) (w : World) (hT : RT p w) (hs : s.size < 24) :
    Calls Tryz.prog 130 #[.pointer (some ⟨p, 0, none⟩), .string s] w fun e w' => e = .returned (.string ⟨(parT s.data.toList).toArray⟩) ∧ Below w.heap.size w w' := by
  have HT := Aside0.mk hT
  obtain ⟨t, cap, a1, a2, a3, a4, a5⟩ := hT.list
  clear hT
  have hd : decide (24 ≤ s.size) = false := decide_eq_false (by omega)
  go_enter Tryz.func130, Tryz.ntmps130
  go_wp2
  go_loopg [5, 6, 10] s.size (fun g v5 v6 v10 wr => ∃ i : Nat, v10 = .int .i64 i ∧ i ≤ s.size ∧ Aside0 (s.size ≤ i + g) ∧ v5 = .int .i64 (((parT (s.data.toList.take i)).length + (s.size - i) : Nat) : Int) ∧ v6 = .bool ((s.data.toList.take i).any isS) ∧ wr = w)
  case atStart => exact ⟨0, rfl, by omega, ⟨by omega⟩, by simp [parT], by simp, rfl⟩
  case round =>
    obtain ⟨i, rfl, hi, HI, rfl, rfl, rfl⟩ := hrel
    by_cases hlt : i < s.size
    · have hd2 : decide (i < s.size) = true := decide_eq_true hlt
      obtain ⟨c, hc⟩ : ∃ c : UInt8, s[i] = c := ⟨_, rfl⟩
      have hc2 : c.toNat < 256 := c.toNat_lt
      have HTk : Aside0 (s.data.toList.take (i + 1) = s.data.toList.take i ++ [c]) := ⟨by
        rw [List.take_succ_eq_append_getElem (by simpa using hlt)]; rw [← hc]; rfl⟩
      have HPL := Aside0.mk (parB_len c)
      cases gk with
      | zero => exfalso; have := HI.out; omega
      | succ g =>
      by_cases hsp : isS c = true
      · have hsc : c.toNat = 94 ∨ c.toNat = 10 ∨ c.toNat = 34 := by
          unfold isS at hsp
          rw [Bool.or_eq_true, Bool.or_eq_true, beq_iff_eq, beq_iff_eq, beq_iff_eq] at hsp
          rcases hsp with (h | h) | h
          · rw [h]; exact .inl rfl
          · rw [h]; exact .inr (.inl rfl)
          · rw [h]; exact .inr (.inr rfl)
        obtain ⟨q, qc, b1, b2, b3, b4⟩ := HT.out.subs c.toNat hsc
        have nq := neq_some
        go_wp2
        go_roundg g
        case measure => have := HI.out; omega
        case rel =>
          have h1 := parT_le (s.data.toList.take i)
          have h2 : (s.data.toList.take i).length = i := by rw [List.length_take, Array.length_toList]; have e : s.data.size = s.size := rfl; omega
          rw [h2] at h1
          refine ⟨i + 1, by first | rfl | (go_num; done) | (congr 1; omega), by omega, ⟨by have := HI.out; omega⟩, ?_, ?_, rfl⟩
          · rw [HTk.out, parT_snoc, List.length_append, HPL.out, if_pos hsp]; congr 1; unfold wrap64; omega
          · rw [HTk.out, List.any_append, List.any_cons, hsp]; simp
      · have hcell : wr.cell? ⟨p, c.toNat, none⟩ = some (.slice none 0 0) := by
          rw [Bool.not_eq_true] at hsp
          unfold isS at hsp
          simp only [Bool.or_eq_false_iff, beq_eq_false_iff_ne] at hsp
          have ne : ∀ n : Nat, n < 256 → c ≠ n.toUInt8 → c.toNat ≠ n := fun n hn h e => h (by apply UInt8.toNat_inj.1; rw [e]; simp; omega)
          exact HT.out.nils c.toNat hc2 (ne 94 (by omega) hsp.1.1) (ne 10 (by omega) hsp.1.2) (ne 34 (by omega) hsp.2)
        have nq := neq_nil
        go_wp2
        go_roundg g
        case measure => have := HI.out; omega
        case rel =>
          rw [Bool.not_eq_true] at hsp
          refine ⟨i + 1, by first | rfl | (go_num; done) | (congr 1; omega), by omega, ⟨by have := HI.out; omega⟩, ?_, ?_, rfl⟩
          · rw [HTk.out, parT_snoc, List.length_append, HPL.out, if_neg (by rw [hsp]; simp)]; congr 1; omega
          · rw [HTk.out, List.any_append, List.any_cons, hsp]; simp
    · have hd2 : decide (i < s.size) = false := decide_eq_false hlt
      have hil : i = s.size := by omega
      subst hil
      have htk : s.data.toList.take s.size = s.data.toList := List.take_of_length_le (by simp)
      rw [htk, Nat.sub_self, Nat.add_zero]
      by_cases hany : s.data.toList.any isS = true
      · rw [hany]
        have hpl := parT_le s.data.toList
        have e : s.data.toList.length = s.size := by simp
        rw [e] at hpl
        have HPA : Aside0 (∃ n, (parT s.data.toList).length = n ∧ n ≤ 100) := ⟨⟨_, rfl, by omega⟩⟩
        obtain ⟨n, hn, hn2⟩ := HPA.out
        rw [hn]
        clear hpl
        obtain ⟨ti, I⟩ := i8
        have hmk := run_make (P := Tryz.prog) wr 46 5 ti (.int .u8 0) Tryz.underlying46 I.hi I.hz .i64 .i64 (n : Int) (n : Int) (by omega) (by omega) (by rw [I.hb]; omega) (by omega)
        rw [Int.toNat_natCast, I.hs, Nat.mul_one] at hmk
        go_wp2
        have HN := Aside0.mk hn
        clear hn hmk htk hany HI HPA
        have hal := (Below.refl wr.heap.size wr).alloc (Nat.le_refl _) (.cells (madeCells #[.int .u8 0] n) 5)
        have hblk : (wr.alloc (.cells (madeCells #[.int .u8 0] n) 5)).heap[wr.heap.size]? = some (.cells (madeCells #[.int .u8 0] n) 5 (0, 0)) := by simp only [World.alloc, Array.getElem?_push_size]
        have HBL := Aside0.mk hblk
        have HAL := Aside0.mk hal
        clear hblk hal
        obtain ⟨G, hGd⟩ : ∃ G, G = wr.heap.size := ⟨_, rfl⟩
        rw [← hGd] at HBL ⊢
        have HGE := Aside0.mk hGd
        clear hGd
        go_loopg [13, 14] s.size (fun g v13 v14 wr2 => ∃ (k : Nat) (cur : Array Value), v14 = .int .i64 k ∧ v13 = .int .i64 ((parT (s.data.toList.take k)).length : Nat) ∧ k ≤ s.size ∧ Aside0 (s.size ≤ k + g) ∧ Aside0 (wr2.heap[G]? = some (.cells cur 5 (0, 0)) ∧ cur.size = n ∧ ∀ x, x < (parT (s.data.toList.take k)).length → cur[x]? = some (.int .u8 ((((parT (s.data.toList.take k)).getD x 0).toNat : Nat) : Int))) ∧ Aside0 (Below wr.heap.size wr wr2))
        case atStart => exact ⟨0, _, rfl, by simp [parT], by omega, ⟨by omega⟩, ⟨HBL.out, by simp [madeCells], fun x hx => by simp [parT] at hx⟩, HAL⟩
        case round =>
          obtain ⟨k, cur, rfl, rfl, hk, HK, HC, HB⟩ := hrel
          by_cases hlt2 : k < s.size
          · have hd3 : decide (k < s.size) = true := decide_eq_true hlt2
            obtain ⟨c, hc⟩ : ∃ c : UInt8, s[k] = c := ⟨_, rfl⟩
            have hc2 : c.toNat < 256 := c.toNat_lt
            have HTk : Aside0 (s.data.toList.take (k + 1) = s.data.toList.take k ++ [c]) := ⟨by
              rw [List.take_succ_eq_append_getElem (by simpa using hlt2)]; rw [← hc]; rfl⟩
            have HTn := HT.out.under HB.out
            have HLn : Aside0 ((parT (s.data.toList.take (k + 1))).length ≤ n) := ⟨by
              have h1 : parT s.data.toList = parT (s.data.toList.take (k + 1)) ++ parT (s.data.toList.drop (k + 1)) := by
                unfold parT; rw [← List.flatMap_append, List.take_append_drop]
              rw [← HN.out, h1, List.length_append]; omega⟩
            have hLn := HLn.out
            rw [HTk.out, parT_snoc, List.length_append, parB_len] at hLn
            cases gk with
            | zero => exfalso; have := HK.out; omega
            | succ g =>
            obtain ⟨J, hJ⟩ : ∃ J, (parT (s.data.toList.take k)).length = J := ⟨_, rfl⟩
            rw [hJ] at hLn HC ⊢
            have HJ := Aside0.mk hJ
            clear hJ
            by_cases hsp : isS c = true
            · have hsc : c.toNat = 94 ∨ c.toNat = 10 ∨ c.toNat = 34 := by
                unfold isS at hsp
                rw [Bool.or_eq_true, Bool.or_eq_true, beq_iff_eq, beq_iff_eq, beq_iff_eq] at hsp
                rcases hsp with (h | h) | h
                · rw [h]; exact .inl rfl
                · rw [h]; exact .inr (.inl rfl)
                · rw [h]; exact .inr (.inr rfl)
              obtain ⟨q, qc, b1, b2, b3, b4⟩ := HTn.subs c.toNat hsc
              have nq := neq_some
              rw [if_pos hsp] at hLn
              have hJn : decide (J ≤ n) = true := decide_eq_true (by omega)
              obtain ⟨ti2, I2⟩ := i8
              have hcp := run_copy_row (P := Tryz.prog) wr.drew 46 46 3 5 G J (n - J) (n - J) ⟨q, 0, none⟩ 2 qc cur 5 [.int .u8 94, .int .u8 (subB c.toNat)] Tryz.underlying46 (by rw [I2.hi]; simp [I2.hs]) HC.out.1 (by simp only [List.length_cons, List.length_nil]; show 2 = min 2 (n - J); omega)
                (fun j v hj => by
                  have hjl : j < 2 := (List.getElem?_eq_some_iff.1 hj).1
                  have hj2 : j = 0 ∨ j = 1 := by omega
                  rcases hj2 with rfl | rfl
                  · have : v = .int .u8 94 := by simpa using hj.symm
                    rw [this, World.cell?_drew]; exact b3
                  · have : v = .int .u8 (subB c.toNat) := by simpa using hj.symm
                    rw [this, World.cell?_drew]; exact b4)
                (by have := HC.out.2.1; simp only [List.length_cons, List.length_nil]; omega) (by intro v hv; simp only [List.mem_cons, List.not_mem_nil, or_false] at hv; rcases hv with rfl | rfl <;> rfl)
              simp only [List.length_cons, List.length_nil] at hcp
              have HC3 := HC.out
              have hpb : ([.int .u8 94, .int .u8 (subB c.toNat)] : List Value) = (parB c).map (fun b => Value.int .u8 ((b.toNat : Nat) : Int)) := by
                rcases hsc with h | h | h
                · have hc9 : c = 94 := by apply UInt8.toNat_inj.1; rw [h]; rfl
                  subst hc9; rfl
                · have hc9 : c = 10 := by apply UInt8.toNat_inj.1; rw [h]; rfl
                  subst hc9; rfl
                · have hc9 : c = 34 := by apply UInt8.toNat_inj.1; rw [h]; rfl
                  subst hc9; rfl
              have HPB := Aside0.mk hpb
              clear hpb hsc
              go_wp2
              go_region
              go_wp2
              go_roundg g
              case measure => have := HK.out; omega
              case rel =>
                have hlen2 : (parB c).length = 2 := by rw [parB_len, if_pos hsp]
                have hJ2 := HJ.out
                have hrp := row_put cur (parT (s.data.toList.take k)) (parB c) n HC3.2.1 (fun x hx => HC3.2.2 x (by rw [← hJ2]; exact hx)) (by rw [hJ2, hlen2]; omega)
                rw [hJ2, hlen2, ← HPB.out] at hrp
                simp only [List.append_assoc, List.cons_append, List.nil_append] at hrp
                refine ⟨k + 1, _, by first | rfl | (go_num; done) | (congr 1; omega), by rw [HTk.out, parT_snoc, List.length_append, hJ2, hlen2]; rfl, by omega, ⟨by have := HK.out; omega⟩, ⟨setRow_heap _ _ _ _ _ _ HC3.1, hrp.1, fun x hx => ?_⟩, ⟨below_setRow (below_drew HB.out) (by have := HGE.out; omega) _⟩⟩
                rw [HTk.out, parT_snoc] at hx ⊢
                exact hrp.2 x hx
            · have hcell : wr.cell? ⟨p, c.toNat, none⟩ = some (.slice none 0 0) := by
                rw [Bool.not_eq_true] at hsp
                unfold isS at hsp
                simp only [Bool.or_eq_false_iff, beq_eq_false_iff_ne] at hsp
                have ne : ∀ n : Nat, n < 256 → c ≠ n.toUInt8 → c.toNat ≠ n := fun n hn h e => h (by apply UInt8.toNat_inj.1; rw [e]; simp; omega)
                exact HTn.nils c.toNat hc2 (ne 94 (by omega) hsp.1.1) (ne 10 (by omega) hsp.1.2) (ne 34 (by omega) hsp.2)
              have nq := neq_nil
              rw [if_neg hsp] at hLn
              have hJn : decide (J < n) = true := decide_eq_true (by omega)
              have hold : wr.cell? ⟨G, J, none⟩ = some (cur[J]'(by have := HC.out.2.1; omega)) := by
                rw [cell_blk HC.out.1, Array.getElem?_eq_getElem]
              have hfz := froz_blk HC.out.1 J
              go_wp2
              go_roundg g
              case measure => have := HK.out; omega
              case rel =>
                have hlen1 : parB c = [c] := parB_no c (by rw [Bool.not_eq_true] at hsp; exact hsp)
                have hJ2 := HJ.out
                have hrs := row_set cur (parT (s.data.toList.take k)) c n HC.out.2.1 (fun x hx => HC.out.2.2 x (by rw [← hJ2]; exact hx)) (by rw [hJ2]; omega)
                rw [hJ2] at hrs
                refine ⟨k + 1, _, by first | rfl | (go_num; done) | (congr 1; omega), by rw [HTk.out, parT_snoc, hlen1, List.length_append, hJ2]; rfl, by omega, ⟨by have := HK.out; omega⟩, ⟨blkSet HC.out.1 _ _, hrs.1, fun x hx => ?_⟩, ⟨Below.setCell HB.out (by have := HGE.out; show _ ≤ G; omega) _⟩⟩
                rw [HTk.out, parT_snoc, hlen1] at hx ⊢
                exact hrs.2 x hx
          · have hd3 : decide (k < s.size) = false := decide_eq_false hlt2
            have hks : k = s.size := by omega
            subst hks
            have htk2 : s.data.toList.take s.size = s.data.toList := List.take_of_length_le (by simp)
            rw [htk2] at HC ⊢
            have hcv := run_convert_bytes_back (P := Tryz.prog) wr 46 9 5 ⟨G, 0, none⟩ n (parT s.data.toList) Tryz.underlying46 Tryz.underlying5 Tryz.underlying9 (fun j hj => by
              have ha : (⟨G, 0, none⟩ : Addr).add j = ⟨G, j, none⟩ := by
                unfold Addr.add
                split
                · rename_i h8; subst h8; rfl
                · simp
              rw [ha, cell_blk HC.out.1, HC.out.2.2 j hj, List.getD_eq_getElem?_getD, List.getElem?_eq_getElem hj]; rfl)
            rw [HN.out] at hcv
            go_wp2
            go_ret
            exact ⟨rfl, HB.out⟩
      · rw [Bool.not_eq_true] at hany
        rw [hany]
        have hno := parT_no _ hany
        go_wp2
        go_ret
        exact ⟨by rw [hno, ba_of]; rfl, Below.refl _ _⟩
end Go.Proofs.YtknmbalhbecdhaaGreatDoor.Print
end
section
set_option linter.unusedVariables false
set_option linter.unusedSimpArgs false
namespace Go.Proofs.YtknmbalhbecdhaaGreatDoor.Print
open Go.RowKit Go.Proofs.YtknmbalhbecdhaaGreatDoorW.PrintWords Go.Proofs.YtknmbalhbecdhaaGreatDoorW.PrintLast
def seqC : Nat → UInt8
  | 0 => 34
  | 1 => 10
  | _ => 94
def cntS : Nat → List UInt8 → Nat
  | 0, _ => 0
  | i + 1, l => cntS i l + Lib.countByte l (seqC i)
theorem cntS_le : ∀ (i : Nat) (l : List UInt8), cntS i l ≤ i * l.length
  | 0, l => by simp [cntS]
  | i + 1, l => by
    have h1 := cntS_le i l
    have h2 : Lib.countByte l (seqC i) ≤ l.length := List.count_le_length
    rw [cntS, Nat.add_mul, Nat.one_mul]; omega
theorem cnt_cons (c : UInt8) (t : List UInt8) (x : UInt8) : Lib.countByte (c :: t) x = Lib.countByte t x + if c = x then 1 else 0 := by
  unfold Lib.countByte
  rw [List.count_cons]
  by_cases h : c = x
  · simp [h]
  · simp [h]
theorem cnt3 (l : List UInt8) : cntS 3 l = Lib.countByte l 34 + Lib.countByte l 10 + Lib.countByte l 94 := by
  simp only [cntS, seqC]; omega
theorem cnt3_cons (c : UInt8) (t : List UInt8) : cntS 3 (c :: t) = cntS 3 t + if isS c = true then 1 else 0 := by
  rw [cnt3, cnt3, cnt_cons, cnt_cons, cnt_cons]
  unfold isS
  by_cases h1 : c = 94
  · subst h1; simp; omega
  by_cases h2 : c = 10
  · subst h2; simp; omega
  by_cases h3 : c = 34
  · subst h3; simp; omega
  simp [h1, h2, h3]
theorem par_cnt : ∀ (l : List UInt8), (parT l).length = l.length + cntS 3 l
  | [] => by rw [cnt3]; rfl
  | c :: t => by
    rw [parT_cons, List.length_append, par_cnt t, parB_len, cnt3_cons, List.length_cons]
    split <;> omega
theorem any_cnt : ∀ (l : List UInt8), l.any isS = decide (0 < cntS 3 l)
  | [] => by rw [cnt3]; rfl
  | c :: t => by
    rw [List.any_cons, any_cnt t, cnt3_cons]
    cases h : isS c
    · simp
    · simp
set_option maxHeartbeats 4000000 in
set_option maxRecDepth 100000 in
theorem bsr_long (p : Nat) (s : ByteArray) (w : World) (hT : RT p w) (hs24 : ¬ s.size < 24) (hs : s.size ≤ 2000000000) :
    Calls Tryz.prog 130 #[.pointer (some ⟨p, 0, none⟩), .string s] w fun e w' => e = .returned (.string ⟨(parT s.data.toList).toArray⟩) ∧ Below w.heap.size w w' := by
  have HT := Aside0.mk hT
  obtain ⟨t, cap, a1, a2, a3, a4, a5⟩ := hT.list
  clear hT
  have hd : decide (24 ≤ s.size) = true := decide_eq_true (by omega)
  have hdI : decide ((24 : Int) ≤ (s.size : Int)) = true := decide_eq_true (by omega)
  go_enter Tryz.func130, Tryz.ntmps130
  go_wp2
  go_loopg [5, 6, 32] 3 (fun g v5 v6 v32 wr => ∃ (i : Nat) (N : Int) (B : Bool), v32 = .int .i64 i ∧ i ≤ 3 ∧ Aside0 (3 ≤ i + g) ∧ v5 = .int .i64 N ∧ v6 = .bool B ∧ Aside0 (N = ((s.size + cntS i s.data.toList : Nat) : Int)) ∧ Aside0 (B = decide (0 < cntS i s.data.toList)) ∧ Aside0 (Below w.heap.size w wr))
  case atStart => exact ⟨0, _, _, rfl, by omega, ⟨by omega⟩, rfl, rfl, ⟨by simp [cntS]⟩, ⟨by simp [cntS]⟩, ⟨Below.refl _ _⟩⟩
  case round =>
    obtain ⟨i, N, B, rfl, hi, HI, rfl, rfl, HNN, HBB, HW⟩ := hrel
    have a1 := (HW.out.cell (cellLt a1)).trans a1
    have a3 := (HW.out.cell (cellLt a3)).trans a3
    have a4 := (HW.out.cell (cellLt a4)).trans a4
    have a5 := (HW.out.cell (cellLt a5)).trans a5
    have HT := Aside0.mk (HT.out.under HW.out)
    by_cases hlt : i < 3
    · cases gk with
      | zero => exfalso; have := HI.out; omega
      | succ g =>
      have nq := neq_some
      have e0 : s.data.toList.length = s.size := by simp
      have hd2 : decide (i < 3) = true := decide_eq_true hlt
      have hcell : wr.cell? ⟨t, i, none⟩ = some (.string ⟨#[seqC i]⟩) := by
        have hi3 : i = 0 ∨ i = 1 ∨ i = 2 := by omega
        rcases hi3 with rfl | rfl | rfl
        · exact a3
        · exact a4
        · exact a5
      have hsc : (seqC i).toNat = 94 ∨ (seqC i).toNat = 10 ∨ (seqC i).toNat = 34 := by
        have hi3 : i = 0 ∨ i = 1 ∨ i = 2 := by omega
        rcases hi3 with rfl | rfl | rfl
        · exact .inr (.inr rfl)
        · exact .inr (.inl rfl)
        · exact .inl rfl
      obtain ⟨q, qc, b1, b2, b3, b4⟩ := HT.out.subs (seqC i).toNat hsc
      have HS : Aside0 (cntS (i + 1) s.data.toList = cntS i s.data.toList + Lib.countByte s.data.toList (seqC i)) := ⟨rfl⟩
      have hle1 := cntS_le (i + 1) s.data.toList
      have hle0 := cntS_le i s.data.toList
      rw [HS.out] at hle1
      have h3 : i ≤ 2 := by omega
      obtain ⟨C, hCd⟩ : ∃ C, Lib.countByte s.data.toList (seqC i) = C := ⟨_, rfl⟩
      rw [hCd] at HS hle1
      have HCd := Aside0.mk hCd
      clear hCd
      obtain ⟨D, hDd⟩ : ∃ D, cntS i s.data.toList = D := ⟨_, rfl⟩
      rw [hDd] at HS hle1 hle0 HNN HBB
      clear hDd
      have hle3 : D + C ≤ 3 * s.size := Nat.le_trans hle1 (by rw [e0]; exact Nat.mul_le_mul_right _ (by omega))
      have hx0 : (⟨#[seqC i]⟩ : ByteArray)[0]'(by show 0 < 1; omega) = seqC i := rfl
      have h256 : (seqC i).toNat < 256 := (seqC i).toNat_lt
      have hd256 : decide ((seqC i).toNat < 256) = true := decide_eq_true h256
      clear a3 a4 a5 hsc
      by_cases hC0 : C = 0
      · subst hC0
        have hb : (((0 : Nat) : Int) != 0) = false := rfl
        go_wp2_with (go_at_call 132; refine (Tryz.strings_Count_one _ _ _).mono ?_; rintro e w' ⟨rfl, hw⟩; rw [hw, HCd.out]; clear hw)
        go_roundg g
        case measure => have := HI.out; omega
        case rel => exact ⟨i + 1, _, _, by first | rfl | (go_num; done) | (congr 1; omega), by omega, ⟨by have := HI.out; omega⟩, rfl, rfl, ⟨by rw [HS.out, HNN.out]; rfl⟩, ⟨by rw [HS.out, HBB.out, Nat.add_zero]⟩, HW⟩
      · have hb : (((C : Nat) : Int) != 0) = true := bne_iff_ne.2 (by omega)
        go_wp2_with (go_at_call 132; refine (Tryz.strings_Count_one _ _ _).mono ?_; rintro e w' ⟨rfl, hw⟩; rw [hw, HCd.out]; clear hw)
        go_region
        go_wp2
        go_roundg g
        case measure => have := HI.out; omega
        case rel => exact ⟨i + 1, _, _, by first | rfl | (go_num; done) | (congr 1; omega), by omega, ⟨by have := HI.out; omega⟩, rfl, rfl, ⟨by rw [HS.out]; have := HNN.out; first | omega | (unfold wrap64; omega) | (simp only [wrap64]; omega)⟩, ⟨by rw [HS.out, decide_eq_true (by omega)]⟩, ⟨below_drew HW.out⟩⟩
    · have hi3 : i = 3 := by omega
      subst hi3
      have hcn := par_cnt s.data.toList
      have hcy := any_cnt s.data.toList
      have e : s.data.toList.length = s.size := by simp
      rw [e] at hcn
      have hN := HNN.out
      have hB := HBB.out
      rw [← hcn] at hN
      rw [← hcy] at hB
      subst hN
      subst hB
      clear HNN HBB
      by_cases hany : s.data.toList.any isS = true
      · rw [hany]
        have hpl := parT_le s.data.toList
        have e : s.data.toList.length = s.size := by simp
        rw [e] at hpl
        have HPA : Aside0 (∃ n, (parT s.data.toList).length = n ∧ n ≤ 4000000000) := ⟨⟨_, rfl, by omega⟩⟩
        obtain ⟨n, hn, hn2⟩ := HPA.out
        rw [hn]
        clear hpl
        obtain ⟨ti, I⟩ := i8
        have hmk := run_make (P := Tryz.prog) wr 46 5 ti (.int .u8 0) Tryz.underlying46 I.hi I.hz .i64 .i64 (n : Int) (n : Int) (by omega) (by omega) (by rw [I.hb]; omega) (by omega)
        rw [Int.toNat_natCast, I.hs, Nat.mul_one] at hmk
        go_wp2
        have HN := Aside0.mk hn
        clear hn hmk hany HI HPA hcn hcy
        have hal := (Below.refl wr.heap.size wr).alloc (Nat.le_refl _) (.cells (madeCells #[.int .u8 0] n) 5)
        have hblk : (wr.alloc (.cells (madeCells #[.int .u8 0] n) 5)).heap[wr.heap.size]? = some (.cells (madeCells #[.int .u8 0] n) 5 (0, 0)) := by simp only [World.alloc, Array.getElem?_push_size]
        have HBL := Aside0.mk hblk
        have HAL := Aside0.mk hal
        clear hblk hal
        obtain ⟨G, hGd⟩ : ∃ G, G = wr.heap.size := ⟨_, rfl⟩
        rw [← hGd] at HBL ⊢
        have HGE := Aside0.mk hGd
        clear hGd
        go_loopg [13, 14] s.size (fun g v13 v14 wr2 => ∃ (k : Nat) (cur : Array Value), v14 = .int .i64 k ∧ v13 = .int .i64 ((parT (s.data.toList.take k)).length : Nat) ∧ k ≤ s.size ∧ Aside0 (s.size ≤ k + g) ∧ Aside0 (wr2.heap[G]? = some (.cells cur 5 (0, 0)) ∧ cur.size = n ∧ ∀ x, x < (parT (s.data.toList.take k)).length → cur[x]? = some (.int .u8 ((((parT (s.data.toList.take k)).getD x 0).toNat : Nat) : Int))) ∧ Aside0 (Below wr.heap.size wr wr2))
        case atStart => exact ⟨0, _, rfl, by simp [parT], by omega, ⟨by omega⟩, ⟨HBL.out, by simp [madeCells], fun x hx => by simp [parT] at hx⟩, HAL⟩
        case round =>
          obtain ⟨k, cur, rfl, rfl, hk, HK, HC, HB⟩ := hrel
          by_cases hlt2 : k < s.size
          · have hd3 : decide (k < s.size) = true := decide_eq_true hlt2
            obtain ⟨c, hc⟩ : ∃ c : UInt8, s[k] = c := ⟨_, rfl⟩
            have hc2 : c.toNat < 256 := c.toNat_lt
            have HTk : Aside0 (s.data.toList.take (k + 1) = s.data.toList.take k ++ [c]) := ⟨by
              rw [List.take_succ_eq_append_getElem (by simpa using hlt2)]; rw [← hc]; rfl⟩
            have HTn := HT.out.under HB.out
            have HLn : Aside0 ((parT (s.data.toList.take (k + 1))).length ≤ n) := ⟨by
              have h1 : parT s.data.toList = parT (s.data.toList.take (k + 1)) ++ parT (s.data.toList.drop (k + 1)) := by
                unfold parT; rw [← List.flatMap_append, List.take_append_drop]
              rw [← HN.out, h1, List.length_append]; omega⟩
            have hLn := HLn.out
            rw [HTk.out, parT_snoc, List.length_append, parB_len] at hLn
            cases gk with
            | zero => exfalso; have := HK.out; omega
            | succ g =>
            obtain ⟨J, hJ⟩ : ∃ J, (parT (s.data.toList.take k)).length = J := ⟨_, rfl⟩
            rw [hJ] at hLn HC ⊢
            have HJ := Aside0.mk hJ
            clear hJ
            by_cases hsp : isS c = true
            · have hsc : c.toNat = 94 ∨ c.toNat = 10 ∨ c.toNat = 34 := by
                unfold isS at hsp
                rw [Bool.or_eq_true, Bool.or_eq_true, beq_iff_eq, beq_iff_eq, beq_iff_eq] at hsp
                rcases hsp with (h | h) | h
                · rw [h]; exact .inl rfl
                · rw [h]; exact .inr (.inl rfl)
                · rw [h]; exact .inr (.inr rfl)
              obtain ⟨q, qc, b1, b2, b3, b4⟩ := HTn.subs c.toNat hsc
              have nq := neq_some
              rw [if_pos hsp] at hLn
              have hJn : decide (J ≤ n) = true := decide_eq_true (by omega)
              obtain ⟨ti2, I2⟩ := i8
              have hcp := run_copy_row (P := Tryz.prog) wr.drew 46 46 3 5 G J (n - J) (n - J) ⟨q, 0, none⟩ 2 qc cur 5 [.int .u8 94, .int .u8 (subB c.toNat)] Tryz.underlying46 (by rw [I2.hi]; simp [I2.hs]) HC.out.1 (by simp only [List.length_cons, List.length_nil]; show 2 = min 2 (n - J); omega)
                (fun j v hj => by
                  have hjl : j < 2 := (List.getElem?_eq_some_iff.1 hj).1
                  have hj2 : j = 0 ∨ j = 1 := by omega
                  rcases hj2 with rfl | rfl
                  · have : v = .int .u8 94 := by simpa using hj.symm
                    rw [this, World.cell?_drew]; exact b3
                  · have : v = .int .u8 (subB c.toNat) := by simpa using hj.symm
                    rw [this, World.cell?_drew]; exact b4)
                (by have := HC.out.2.1; simp only [List.length_cons, List.length_nil]; omega) (by intro v hv; simp only [List.mem_cons, List.not_mem_nil, or_false] at hv; rcases hv with rfl | rfl <;> rfl)
              simp only [List.length_cons, List.length_nil] at hcp
              have HC3 := HC.out
              have hpb : ([.int .u8 94, .int .u8 (subB c.toNat)] : List Value) = (parB c).map (fun b => Value.int .u8 ((b.toNat : Nat) : Int)) := by
                rcases hsc with h | h | h
                · have hc9 : c = 94 := by apply UInt8.toNat_inj.1; rw [h]; rfl
                  subst hc9; rfl
                · have hc9 : c = 10 := by apply UInt8.toNat_inj.1; rw [h]; rfl
                  subst hc9; rfl
                · have hc9 : c = 34 := by apply UInt8.toNat_inj.1; rw [h]; rfl
                  subst hc9; rfl
              have HPB := Aside0.mk hpb
              clear hpb hsc
              go_wp2
              go_region
              go_wp2
              go_roundg g
              case measure => have := HK.out; omega
              case rel =>
                have hlen2 : (parB c).length = 2 := by rw [parB_len, if_pos hsp]
                have hJ2 := HJ.out
                have hrp := row_put cur (parT (s.data.toList.take k)) (parB c) n HC3.2.1 (fun x hx => HC3.2.2 x (by rw [← hJ2]; exact hx)) (by rw [hJ2, hlen2]; omega)
                rw [hJ2, hlen2, ← HPB.out] at hrp
                simp only [List.append_assoc, List.cons_append, List.nil_append] at hrp
                refine ⟨k + 1, _, by first | rfl | (go_num; done) | (congr 1; omega), by rw [HTk.out, parT_snoc, List.length_append, hJ2, hlen2]; rfl, by omega, ⟨by have := HK.out; omega⟩, ⟨setRow_heap _ _ _ _ _ _ HC3.1, hrp.1, fun x hx => ?_⟩, ⟨below_setRow (below_drew HB.out) (by have := HGE.out; omega) _⟩⟩
                rw [HTk.out, parT_snoc] at hx ⊢
                exact hrp.2 x hx
            · have hcell : wr.cell? ⟨p, c.toNat, none⟩ = some (.slice none 0 0) := by
                rw [Bool.not_eq_true] at hsp
                unfold isS at hsp
                simp only [Bool.or_eq_false_iff, beq_eq_false_iff_ne] at hsp
                have ne : ∀ n : Nat, n < 256 → c ≠ n.toUInt8 → c.toNat ≠ n := fun n hn h e => h (by apply UInt8.toNat_inj.1; rw [e]; simp; omega)
                exact HTn.nils c.toNat hc2 (ne 94 (by omega) hsp.1.1) (ne 10 (by omega) hsp.1.2) (ne 34 (by omega) hsp.2)
              have nq := neq_nil
              rw [if_neg hsp] at hLn
              have hJn : decide (J < n) = true := decide_eq_true (by omega)
              have hold : wr.cell? ⟨G, J, none⟩ = some (cur[J]'(by have := HC.out.2.1; omega)) := by
                rw [cell_blk HC.out.1, Array.getElem?_eq_getElem]
              have hfz := froz_blk HC.out.1 J
              go_wp2
              go_roundg g
              case measure => have := HK.out; omega
              case rel =>
                have hlen1 : parB c = [c] := parB_no c (by rw [Bool.not_eq_true] at hsp; exact hsp)
                have hJ2 := HJ.out
                have hrs := row_set cur (parT (s.data.toList.take k)) c n HC.out.2.1 (fun x hx => HC.out.2.2 x (by rw [← hJ2]; exact hx)) (by rw [hJ2]; omega)
                rw [hJ2] at hrs
                refine ⟨k + 1, _, by first | rfl | (go_num; done) | (congr 1; omega), by rw [HTk.out, parT_snoc, hlen1, List.length_append, hJ2]; rfl, by omega, ⟨by have := HK.out; omega⟩, ⟨blkSet HC.out.1 _ _, hrs.1, fun x hx => ?_⟩, ⟨Below.setCell HB.out (by have := HGE.out; show _ ≤ G; omega) _⟩⟩
                rw [HTk.out, parT_snoc, hlen1] at hx ⊢
                exact hrs.2 x hx
          · have hd3 : decide (k < s.size) = false := decide_eq_false hlt2
            have hks : k = s.size := by omega
            subst hks
            have htk2 : s.data.toList.take s.size = s.data.toList := List.take_of_length_le (by simp)
            rw [htk2] at HC ⊢
            have hcv := run_convert_bytes_back (P := Tryz.prog) wr 46 9 5 ⟨G, 0, none⟩ n (parT s.data.toList) Tryz.underlying46 Tryz.underlying5 Tryz.underlying9 (fun j hj => by
              have ha : (⟨G, 0, none⟩ : Addr).add j = ⟨G, j, none⟩ := by
                unfold Addr.add
                split
                · rename_i h8; subst h8; rfl
                · simp
              rw [ha, cell_blk HC.out.1, HC.out.2.2 j hj, List.getD_eq_getElem?_getD, List.getElem?_eq_getElem hj]; rfl)
            rw [HN.out] at hcv
            go_wp2
            go_ret
            exact ⟨rfl, HW.out.trans (HB.out.mono HW.out.size)⟩
      · rw [Bool.not_eq_true] at hany
        rw [hany]
        have hno := parT_no _ hany
        go_wp2
        go_ret
        exact ⟨by rw [hno, ba_of]; rfl, HW.out⟩
theorem bsr_walk (p : Nat) (s : ByteArray) (w : World) (hT : RT p w) (hs : s.size ≤ 2000000000) :
    Calls Tryz.prog 130 #[.pointer (some ⟨p, 0, none⟩), .string s] w fun e w' => e = .returned (.string ⟨(parT s.data.toList).toArray⟩) ∧ Below w.heap.size w w' := by
  by_cases h : s.size < 24
  · exact bsr_short p s w hT h
  · exact bsr_long p s w hT h hs
end Go.Proofs.YtknmbalhbecdhaaGreatDoor.Print
end
section
set_option linter.unusedVariables false
set_option linter.unusedSimpArgs false
namespace Go.Proofs.YtknmbalhbecdhaaGreatDoor.Print
open Go.RowKit Go.Proofs.YtknmbalhbecdhaaGreatDoorW.PrintWords Go.Proofs.YtknmbalhbecdhaaGreatDoorW.PrintLast
/-- The six strings of a replacer. -/
structure Six (b : Nat) (w : World) : Prop where
  h0 : w.cell? ⟨b, 0, none⟩ = some (.string ⟨#[94]⟩)
  h1 : w.cell? ⟨b, 1, none⟩ = some (.string ⟨#[94, 94]⟩)
  h2 : w.cell? ⟨b, 2, none⟩ = some (.string ⟨#[10]⟩)
  h3 : w.cell? ⟨b, 3, none⟩ = some (.string ⟨#[94, 110]⟩)
  h4 : w.cell? ⟨b, 4, none⟩ = some (.string ⟨#[34]⟩)
  h5 : w.cell? ⟨b, 5, none⟩ = some (.string ⟨#[94, 39]⟩)
/-- A new replacer: not built yet. -/
structure RN (p c cap : Nat) (w : World) : Prop where
  blk : w.heap[p]? = some (.cells #[.int .u32 0, .int .i32 0, .int .u32 0, .nilIface, .slice (some ⟨c, 0, none⟩) 6 cap] 100 (0, 0))
  six : Six c w
theorem allocAt (w : World) (o : Obj) : (w.alloc o).heap[w.heap.size]? = some o := by simp only [World.alloc, Array.getElem?_push_size]
theorem new_walk (b : Nat) (w : World) (h : Six b w) :
    Calls Tryz.prog 41 #[.slice (some ⟨b, 0, none⟩) 6 6] w fun e w' => ∃ p c cap : Nat, e = .returned (.pointer (some ⟨p, 0, none⟩)) ∧ RN p c cap w' ∧ w.heap.size ≤ c ∧ c < p ∧ Below w.heap.size w w' := by
  obtain ⟨h0, h1, h2, h3, h4, h5⟩ := h
  go_enter Tryz.func41, Tryz.ntmps41
  go_wp2
  go_ret
  refine ⟨w.heap.size + 1, w.heap.size, (Question.appendCap 6 0 9).cut (w.tape w.drawn (Question.appendCap 6 0 9)), by first | rfl | simp, ⟨?_, ?_⟩, Nat.le_refl _, Nat.lt_succ_self _, ?_⟩
  · have := allocAt (w.alloc (.cells (#[.string ⟨#[94]⟩, .string ⟨#[94, 94]⟩, .string ⟨#[10]⟩, .string ⟨#[94, 110]⟩, .string ⟨#[34]⟩, .string ⟨#[94, 39]⟩] ++ Builtin.zeroCells #[.string ⟨#[]⟩] ((Question.appendCap 6 0 9).cut (w.tape w.drawn (Question.appendCap 6 0 9)) - 6)) 9)) (.cells #[.int .u32 0, .int .i32 0, .int .u32 0, .nilIface, .slice (some ⟨w.heap.size, 0, none⟩) 6 ((Question.appendCap 6 0 9).cut (w.tape w.drawn (Question.appendCap 6 0 9)))] 100)
    rw [World.size_alloc] at this
    exact this
  · constructor
    all_goals
      rw [World.cell?_drew, World.cell?_alloc_lt _ _ _ (by simp), World.cell?_alloc_at _ _ _ _ rfl, Array.getElem?_append_left (by simp)]
      rfl
  · exact below_drew (((Below.refl _ _).alloc (Nat.le_refl _) _).alloc (by simp) _)
end Go.Proofs.YtknmbalhbecdhaaGreatDoor.Print
end
section
set_option linter.unusedVariables false
set_option linter.unusedSimpArgs false
namespace Go.Proofs.YtknmbalhbecdhaaGreatDoor.Print
open Go.RowKit Go.Proofs.YtknmbalhbecdhaaGreatDoorW.PrintWords Go.Proofs.YtknmbalhbecdhaaGreatDoorW.PrintLast
theorem mk3 (w : World) : (Instr.makeSlice 42 (.int .i64 0) (.int .i64 3)).run Tryz.prog w = .ok (.slice (some ⟨w.heap.size, 0, none⟩) 0 3) (w.alloc (.cells #[.string ⟨#[]⟩, .string ⟨#[]⟩, .string ⟨#[]⟩] 9)) := by kernel_rfl
theorem size156 : (Tryz.prog.info? 127).map (·.size) = some 257 := by kernel_rfl
theorem zsize : Tryz.zeroCells127.size = 257 := by kernel_rfl
theorem zone : Tryz.zeroCells127.all (·.oneCell') = true := by kernel_rfl
/-- The table, before a byte is laid. -/
noncomputable def T0 (g : Nat) : Array Value := (Tryz.zeroCells127.toList.set 256 (.slice (some ⟨g, 0, none⟩) 0 3)).toArray
theorem T0_size (g : Nat) : (T0 g).size = 257 := by unfold T0; rw [List.size_toArray, List.length_set, Array.length_toList]; exact zsize
theorem T0_one (g : Nat) : (T0 g).all (·.oneCell') = true := by
  unfold T0
  rw [List.all_toArray, List.all_eq_true]
  intro v hv
  rcases List.mem_or_eq_of_mem_set hv with h | rfl
  · have := zone
    rw [← Array.all_toList, List.all_eq_true] at this
    exact this v h
  · rfl
theorem zrep : Tryz.zeroCells127 = Array.replicate 257 (.slice none 0 0) := by kernel_rfl
theorem eql_nil (w : World) : (binOp .eql 46 (.slice none 0 0) (.slice none 0 0)).run Tryz.prog w = .ok (.bool true) w := by kernel_rfl
theorem T0_nil (g c : Nat) (hc : c < 256) : (T0 g)[c]? = some (.slice none 0 0) := by
  unfold T0
  rw [List.getElem?_toArray, List.getElem?_set_ne (by omega), Array.getElem?_toList]
  rw [zrep, Array.getElem?_replicate, if_pos (by omega)]
theorem T0_list (g : Nat) : (T0 g)[256]? = some (.slice (some ⟨g, 0, none⟩) 0 3) := by
  unfold T0
  rw [List.getElem?_toArray, List.getElem?_set_self (by rw [Array.length_toList, zsize]; omega)]
theorem put156 (w : World) (g : Nat) : (storeCells ⟨w.heap.size, 0, none⟩ (Tryz.zeroCells127.toList.set 256 (.slice (some ⟨g, 0, none⟩) 0 3)) 0).run Tryz.prog (w.alloc (.cells Tryz.zeroCells127 127)) = .ok () (w.alloc (.cells (T0 g) 127)) :=
  run_storeCells_new w 127 _ (T0 g) (by rw [size156, T0_size]) (by rw [zsize, T0_size]) (T0_one g)
theorem cv_byte (b : UInt8) (w : World) : (convert 46 9 (.slice (some ⟨w.heap.size, 0, none⟩) 1 1)).run Tryz.prog (w.alloc (.cells #[.int .u8 ((b.toNat : Nat) : Int)] 5)) = .ok (.string ⟨#[b]⟩) (w.alloc (.cells #[.int .u8 ((b.toNat : Nat) : Int)] 5)) :=
  run_convert_bytes_back (P := Tryz.prog) _ 46 9 5 ⟨w.heap.size, 0, none⟩ 1 [b] Tryz.underlying46 Tryz.underlying5 Tryz.underlying9 (fun j hj => by
    have hj0 : j = 0 := by simpa using hj
    subst hj0
    show (w.alloc _).cell? ⟨w.heap.size, 0, none⟩ = _
    rw [World.cell?_alloc_at _ _ _ _ rfl]; rfl)
/-- The bytes that are laid, in their order. -/
def ob (k : Nat) : Nat := if k = 0 then 34 else if k = 1 then 10 else 94
/-- The table of replacements while it is filled: so many bytes are laid. -/
structure Stage (w0 : World) (T Q : Nat) (k : Nat) (w : World) : Prop where
  bel : Below w0.heap.size w0 w
  tb : ∃ tc : Array Value, w.heap[T]? = some (.cells tc 9 (0, 0)) ∧ tc.size = 3 ∧ ∀ j, j < k → tc[j]? = some (.string ⟨#[(ob j).toUInt8]⟩)
  qb : ∃ qc : Array Value, w.heap[Q]? = some (.cells qc 127 (0, 0)) ∧ qc.size = 257 ∧ qc[256]? = some (.slice (some ⟨T, 0, none⟩) k 3) ∧
    (∀ c, c < 256 → (∀ j, j < k → c ≠ ob j) → qc[c]? = some (.slice none 0 0)) ∧
    (∀ j, j < k → ∃ q cap, qc[ob j]? = some (.slice (some ⟨q, 0, none⟩) 2 cap) ∧ 2 ≤ cap ∧ q ≠ T ∧ q ≠ Q ∧ w0.heap.size ≤ q ∧ w.cell? ⟨q, 0, none⟩ = some (.int .u8 94) ∧ w.cell? ⟨q, 1, none⟩ = some (.int .u8 (subB (ob j))))
theorem cv_str (s : ByteArray) (w : World) : ∃ w' cap, (convert 9 46 (.string s)).run Tryz.prog w = .ok (.slice (some ⟨w.heap.size, 0, none⟩) s.size cap) w' ∧ Below w.heap.size w w' ∧ s.size ≤ cap ∧ (∀ j, j < s.size → w'.cell? ⟨w.heap.size, j, none⟩ = some (.int .u8 ((s.data.toList.getD j 0).toNat : Nat))) := by
  refine ⟨Lib.bytesWorld w 5 s, _, Lib.run_convert_string_bytes w 9 46 5 s Tryz.underlying9 Tryz.underlying46 Tryz.underlying5, ?_, grownCap_ge _ _ _ _, fun j hj => Lib.bytesWorld_cell w 5 s j hj⟩
  refine ⟨?_, ?_, ?_, ?_, fun j hj => Lib.bytesWorld_at_old w 5 s j hj⟩
  · unfold Lib.bytesWorld World.freeze; split <;> rfl
  · unfold Lib.bytesWorld World.freeze; split <;> rfl
  · unfold Lib.bytesWorld World.freeze; split <;> rfl
  · rw [Lib.bytesWorld_size]; omega
theorem blkSetO {w : World} {g h : Nat} {j : Nat} {x : Option Obj} (hx : w.heap[g]? = x) (hne : g ≠ h) (u : Value) : (w.setCell ⟨h, j, none⟩ u).heap[g]? = x := by
  rw [Below.heap_setCell _ _ _ _ hne]; exact hx
theorem blkAl {w : World} {g : Nat} {x : Obj} (hx : w.heap[g]? = some x) (o : Obj) : (w.alloc o).heap[g]? = some x := by
  rw [Below.heap_alloc _ _ _ (Array.getElem?_eq_some_iff.1 hx).1]; exact hx
theorem ob_lt (k : Nat) : ob k < 256 := by unfold ob; split <;> (try split) <;> omega
theorem ob_ne {j k : Nat} (h : j < k) (hk : k < 3) : ob j ≠ ob k := by
  have : k = 1 ∨ k = 2 := by omega
  rcases this with rfl | rfl
  · obtain rfl : j = 0 := by omega
    decide
  · have : j = 0 ∨ j = 1 := by omega
    rcases this with rfl | rfl <;> decide
/-- The world in which a round's replacement is made. -/
def midW (T Q k : Nat) (o : UInt8) (wr : World) : World := (((wr.setCell ⟨T, k, none⟩ (.string ⟨#[o]⟩)).setCell ⟨Q, 256, none⟩ (.slice (some ⟨T, 0, none⟩) (k + 1) 3)).alloc (.cells #[.int .u8 ((o.toNat : Nat) : Int)] 5)).alloc (.cells #[.string ⟨#[o]⟩] 9)
theorem stage_step {w0 wr : World} {T Q k : Nat} (hS : Stage w0 T Q k wr) (hk : k < 3) (hT : w0.heap.size ≤ T) (hQ : w0.heap.size ≤ Q) (hTQ : T ≠ Q) {w' : World} {cap : Nat} (o : UInt8) (ho : o = (ob k).toUInt8)
    (hB : Below (midW T Q k o wr).heap.size (midW T Q k o wr) w') (hc : 2 ≤ cap)
    (c0 : w'.cell? ⟨(midW T Q k o wr).heap.size, 0, none⟩ = some (.int .u8 94)) (c1 : w'.cell? ⟨(midW T Q k o wr).heap.size, 1, none⟩ = some (.int .u8 (subB (ob k)))) :
    Stage w0 T Q (k + 1) (w'.setCell ⟨Q, ob k, none⟩ (.slice (some ⟨(midW T Q k o wr).heap.size, 0, none⟩) 2 cap)) := by
  obtain ⟨hb, ⟨tc, ht1, ht2, ht3⟩, ⟨qc, hq1, hq2, hq3, hq4, hq5⟩⟩ := hS
  have hTl : T < wr.heap.size := (Array.getElem?_eq_some_iff.1 ht1).1
  have hQl : Q < wr.heap.size := (Array.getElem?_eq_some_iff.1 hq1).1
  have hms : (midW T Q k o wr).heap.size = wr.heap.size + 2 := by unfold midW; simp
  have hw0 := hb.size
  have hobl := ob_lt k
  have bm : Below w0.heap.size w0 (midW T Q k o wr) :=
    (((hb.setCell (p := ⟨T, k, none⟩) hT _).setCell (p := ⟨Q, 256, none⟩) hQ _).alloc (by simp; omega) _).alloc (by simp; omega) _
  have bw : Below w0.heap.size w0 w' := bm.trans (hB.mono (by omega))
  have mt : (midW T Q k o wr).heap[T]? = some (.cells (tc.setIfInBounds k (.string ⟨#[o]⟩)) 9 (0, 0)) :=
    blkAl (blkAl (blkSetO (blkSet ht1 k _) hTQ _) _) _
  have mq : (midW T Q k o wr).heap[Q]? = some (.cells (qc.setIfInBounds 256 (.slice (some ⟨T, 0, none⟩) (k + 1) 3)) 127 (0, 0)) :=
    blkAl (blkAl (blkSet (blkSetO hq1 (Ne.symm hTQ) _) 256 _) _) _
  have wt := (hB.block T (by omega)).trans mt
  have wq := (hB.block Q (by omega)).trans mq
  refine ⟨bw.setCell (p := ⟨Q, ob k, none⟩) hQ _, ⟨_, blkSetO wt hTQ _, by rw [Array.size_setIfInBounds]; exact ht2, fun j hj => ?_⟩, ⟨_, blkSet wq _ _, by rw [Array.size_setIfInBounds, Array.size_setIfInBounds]; exact hq2, ?_, fun c hc' hne => ?_, fun j hj => ?_⟩⟩
  · by_cases h : j = k
    · subst h; rw [Array.getElem?_setIfInBounds_self_of_lt (by omega), ho]
    · rw [Array.getElem?_setIfInBounds_ne (by omega)]; exact ht3 j (by omega)
  · rw [Array.getElem?_setIfInBounds_ne (by omega), Array.getElem?_setIfInBounds_self_of_lt (by omega)]
  · have hck := hne k (by omega)
    rw [Array.getElem?_setIfInBounds_ne (by omega), Array.getElem?_setIfInBounds_ne (by omega)]
    exact hq4 c hc' (fun j hj => hne j (by omega))
  · by_cases h : j = k
    · subst h
      refine ⟨_, cap, by rw [Array.getElem?_setIfInBounds_self_of_lt (by rw [Array.size_setIfInBounds]; omega)], hc, by omega, by omega, by omega, ?_, ?_⟩
      · rw [World.cell?_setCell_other _ _ _ _ (by intro e; have := congrArg Addr.block e; simp at this; omega)]; exact c0
      · rw [World.cell?_setCell_other _ _ _ _ (by intro e; have := congrArg Addr.block e; simp at this; omega)]; exact c1
    · have hjk : j < k := by omega
      obtain ⟨q, cap', a1, a2, a3, a4, a7, a5, a6⟩ := hq5 j hjk
      have hql : q < wr.heap.size := cellLt a5
      have hob := ob_ne hjk hk
      have hobj := ob_lt j
      refine ⟨q, cap', by rw [Array.getElem?_setIfInBounds_ne (Ne.symm hob), Array.getElem?_setIfInBounds_ne (by omega)]; exact a1, a2, a3, a4, a7, ?_, ?_⟩
      all_goals
        rw [World.cell?_setCell_other _ _ _ _ (by intro e; have := congrArg Addr.block e; simp at this; omega)]
        refine (hB.cell (p := ⟨q, _, none⟩) (by show q < _; omega)).trans ?_
        unfold midW
        rw [World.cell?_alloc_lt _ _ _ (by simp; omega), World.cell?_alloc_lt _ _ _ (by simp; omega), World.cell?_setCell_other _ _ _ _ (by intro e; have := congrArg Addr.block e; simp at this; omega), World.cell?_setCell_other _ _ _ _ (by intro e; have := congrArg Addr.block e; simp at this; omega)]
        first | exact a5 | exact a6
/-- The table lies in blocks from a place on: what happens below it leaves it. -/
def RTA (B p : Nat) (w : World) : Prop := ∀ w' : World, (∀ k, B ≤ k → w'.heap[k]? = w.heap[k]?) → RT p w'
theorem RTA.rt {B p : Nat} {w : World} (h : RTA B p w) : RT p w := h w (fun _ _ => rfl)
theorem RTA.keep {B p : Nat} {w w' : World} (h : RTA B p w) (hk : ∀ k, B ≤ k → w'.heap[k]? = w.heap[k]?) : RTA B p w' := fun w2 h2 => h w2 (fun k hb => (h2 k hb).trans (hk k hb))
theorem RTA.set {B p : Nat} {w : World} (h : RTA B p w) (a : Addr) (ha : a.block < B) (u : Value) : RTA B p (w.setCell a u) := h.keep (fun k hk => Below.heap_setCell _ _ _ _ (by omega))
theorem RTA.drew {B p : Nat} {w : World} (h : RTA B p w) : RTA B p w.drew := h.keep (fun _ _ => rfl)
theorem rt_of_stage {w0 w : World} {T Q : Nat} (hT : w0.heap.size ≤ T) (hQ : w0.heap.size ≤ Q) (h : Stage w0 T Q 3 w) : RTA w0.heap.size Q w := by
  intro w' hk
  obtain ⟨hb, ⟨tc, ht1, ht2, ht3⟩, ⟨qc, hq1, hq2, hq3, hq4, hq5⟩⟩ := h
  rw [← hk T hT] at ht1
  rw [← hk Q hQ] at hq1
  refine ⟨fun c hc h1 h2 h3 => ?_, fun c hc => ?_, ⟨T, 3, by rw [cell_blk hq1]; exact hq3, Nat.le_refl _, by rw [cell_blk ht1]; exact ht3 0 (by omega), by rw [cell_blk ht1]; exact ht3 1 (by omega), by rw [cell_blk ht1]; exact ht3 2 (by omega)⟩⟩
  · rw [cell_blk hq1]
    refine hq4 c hc (fun j hj => ?_)
    have : j = 0 ∨ j = 1 ∨ j = 2 := by omega
    rcases this with rfl | rfl | rfl
    · exact h3
    · exact h2
    · exact h1
  · have : ∃ j, j < 3 ∧ c = ob j := by
      rcases hc with h | h | h
      · exact ⟨2, by omega, h⟩
      · exact ⟨1, by omega, h⟩
      · exact ⟨0, by omega, h⟩
    obtain ⟨j, hj, rfl⟩ := this
    obtain ⟨q, cap, a1, a2, a3, a4, a7, a5, a6⟩ := hq5 j hj
    exact ⟨q, cap, by rw [cell_blk hq1]; exact a1, a2, (World.cell?_of_block (w := w) (hk q a7)).trans a5, (World.cell?_of_block (w := w) (hk q a7)).trans a6⟩
theorem stage_zero (w : World) : Stage w w.heap.size (w.heap.size + 1) 0 ((w.alloc (.cells #[.string ⟨#[]⟩, .string ⟨#[]⟩, .string ⟨#[]⟩] 9)).alloc (.cells (T0 w.heap.size) 127)) := by
  have e1 := allocAt (w.alloc (.cells #[.string ⟨#[]⟩, .string ⟨#[]⟩, .string ⟨#[]⟩] 9)) (.cells (T0 w.heap.size) 127)
  rw [World.size_alloc] at e1
  refine ⟨((Below.refl _ _).alloc (Nat.le_refl _) _).alloc (by simp) _, ⟨_, blkAl (allocAt w _) _, rfl, fun j hj => by omega⟩, ⟨_, e1, T0_size _, T0_list _, fun c hc _ => T0_nil _ c hc, fun j hj => by omega⟩⟩
set_option maxHeartbeats 4000000 in
set_option maxRecDepth 100000 in
theorem build_walk (p c cap : Nat) (w : World) (hold : w.cell? ⟨p, 4, none⟩ = some (.slice (some ⟨c, 0, none⟩) 6 cap)) (h : Six c w) :
    Calls Tryz.prog 60 #[.pointer (some ⟨p, 0, none⟩)] w fun e w' => ∃ q : Nat, e = .returned (.iface 128 (.pointer (some ⟨q, 0, none⟩))) ∧ RTA w.heap.size q w' ∧ Below w.heap.size w w' := by
  obtain ⟨h0, h1, h2, h3, h4, h5⟩ := h
  have hmk := mk3
  have hnn := neq_nil
  have hput := put156 (w.alloc (.cells #[.string ⟨#[]⟩, .string ⟨#[]⟩, .string ⟨#[]⟩] 9)) w.heap.size
  rw [World.size_alloc] at hput
  go_enter Tryz.func60, Tryz.ntmps60
  go_wp2
  refine wp_loop_rounds 4 ?_
  rw [rounds_succ]
  go_wp2
  rw [rounds_succ]
  go_wp2
  rw [rounds_succ]
  go_wp2
  rw [rounds_succ]
  go_wp2
  have heq := eql_nil
  have hcl : c < w.heap.size := cellLt h0
  have HS0 := Aside0.mk (stage_zero w)
  obtain ⟨T, hT⟩ : ∃ T, T = w.heap.size := ⟨_, rfl⟩
  obtain ⟨Q, hQ⟩ : ∃ Q, Q = T + 1 := ⟨_, rfl⟩
  have HT := Aside0.mk hT
  have HQ := Aside0.mk hQ
  rw [← hT, ← hQ] at HS0 ⊢
  clear hT hQ hput hmk hold hnn
  go_loopg [12, 13, 14] 4 (fun g v12 v13 v14 wr => ∃ k : Nat, v12 = .int .i64 (4 - 2 * (k : Int)) ∧ k ≤ 3 ∧ Aside0 (3 ≤ k + g) ∧ Aside0 (Stage w T Q k wr))
  case atStart => exact ⟨0, rfl, by omega, ⟨by omega⟩, HS0⟩
  case round =>
    obtain ⟨k, rfl, hk, HK, HSt⟩ := hrel
    obtain ⟨hb, ⟨tc, ht1, ht2, ht3⟩, ⟨qc, hq1, hq2, hq3, hq4, hq5⟩⟩ := HSt.out
    rcases Nat.lt_or_ge k 3 with hlt | hge
    · cases gk with
      | zero => exfalso; have := HK.out; omega
      | succ g =>
      have qt : wr.cell? ⟨Q, 256, none⟩ = some (.slice (some ⟨T, 0, none⟩) k 3) := by rw [cell_blk hq1]; exact hq3
      have qn : wr.cell? ⟨Q, ob k, none⟩ = some (.slice none 0 0) := by
        rw [cell_blk hq1]; refine hq4 _ (by unfold ob; split <;> (try split) <;> omega) (fun j hj => ?_)
        unfold ob
        have : k = 0 ∨ k = 1 ∨ k = 2 := by omega
        rcases this with rfl | rfl | rfl
        · omega
        · obtain rfl : j = 0 := by omega
          decide
        · have : j = 0 ∨ j = 1 := by omega
          rcases this with rfl | rfl <;> decide
      have fz : ∀ j, wr.frozen? ⟨Q, j, none⟩ = false := fun j => froz_blk hq1 j
      have ft : ∀ j, wr.frozen? ⟨T, j, none⟩ = false := fun j => froz_blk ht1 j
      have htk : ∃ v, wr.cell? ⟨T, k, none⟩ = some v := ⟨tc[k]'(by omega), by rw [cell_blk ht1, Array.getElem?_eq_getElem]⟩
      obtain ⟨tv, htk⟩ := htk
      have g0 := (hb.cell (p := ⟨c, 0, none⟩) hcl).trans h0
      have g1 := (hb.cell (p := ⟨c, 1, none⟩) hcl).trans h1
      have g2 := (hb.cell (p := ⟨c, 2, none⟩) hcl).trans h2
      have g3 := (hb.cell (p := ⟨c, 3, none⟩) hcl).trans h3
      have g4 := (hb.cell (p := ⟨c, 4, none⟩) hcl).trans h4
      have g5 := (hb.cell (p := ⟨c, 5, none⟩) hcl).trans h5
      have hTl : T < wr.heap.size := cellLt htk
      have hQl : Q < wr.heap.size := cellLt qt
      clear hb ht1 ht2 ht3 hq1 hq2 hq3 hq4 hq5 h0 h1 h2 h3 h4 h5
      have hk3 : k = 0 ∨ k = 1 ∨ k = 2 := by omega
      rcases hk3 with rfl | rfl | rfl
      · have hz : ob 0 = 34 := rfl
        rw [hz] at qn
        clear hz
        have xo : (⟨#[34]⟩ : ByteArray)[0]'(by decide) = 34 := rfl
        have cv := cv_byte 34
        rw [show (((34 : UInt8).toNat : Nat) : Int) = 34 from rfl] at cv
        have yo : (34 : UInt8).toNat = 34 := rfl
        obtain ⟨w', cp, hrun, HB', hcp, hcl'⟩ := cv_str ⟨#[94, 39]⟩ (midW T Q 0 34 wr)
        have HM := Aside0.mk (show (midW T Q 0 34 wr).heap.size = wr.heap.size + 2 by unfold midW; simp)
        have z0 := hcl' 0 (by decide)
        have z1 := hcl' 1 (by decide)
        have qn' : w'.cell? ⟨Q, 34, none⟩ = some (.slice none 0 0) := by
          refine (HB'.cell (p := ⟨Q, 34, none⟩) (by have := HM.out; show Q < _; omega)).trans ?_
          unfold midW
          rw [World.cell?_alloc_lt _ _ _ (by simp; omega), World.cell?_alloc_lt _ _ _ (by simp; omega), World.cell?_setCell_other _ _ _ _ (by simp), World.cell?_setCell_other _ _ _ _ (by intro e; have := congrArg Addr.block e; simp at this; have := HQ.out; omega)]
          exact qn
        have fq' : w'.frozen? ⟨Q, 34, none⟩ = false := by
          refine (HB'.frozen (p := ⟨Q, 34, none⟩) (by have := HM.out; show Q < _; omega)).trans ?_
          unfold midW
          rw [World.frozen?_alloc_past _ _ _ (by simp; omega), World.frozen?_alloc_past _ _ _ (by simp; omega)]
          simp [fz]
        have HFin := Aside0.mk (stage_step HSt.out hlt (by have := HT.out; omega) (by have := HT.out; have := HQ.out; omega) (by have := HQ.out; omega) 34 rfl HB' hcp z0 z1)
        have hrun2 : (convert 9 46 (.string ⟨#[94, 39]⟩)).run Tryz.prog ((((wr.setCell ⟨T, 0, none⟩ (.string ⟨#[34]⟩)).setCell ⟨Q, 256, none⟩ (.slice (some ⟨T, 0, none⟩) 1 3)).alloc (.cells #[.int .u8 34] 5)).alloc (.cells #[.string ⟨#[34]⟩] 9)) = .ok (.slice (some ⟨(midW T Q 0 34 wr).heap.size, 0, none⟩) 2 cp) w' := hrun
        obtain ⟨G, hG⟩ : ∃ G, G = (midW T Q 0 34 wr).heap.size := ⟨_, rfl⟩
        rw [← hG] at hrun2 HFin
        clear hrun HB' hcp hcl' z0 z1 HM hG
        go_wp2
        go_roundg g
        case measure => have := HK.out; omega
        case rel => exact ⟨0 + 1, by first | rfl | (go_num; done), by omega, ⟨by have := HK.out; omega⟩, HFin⟩
      · have hz : ob 1 = 10 := rfl
        rw [hz] at qn
        clear hz
        have xo : (⟨#[10]⟩ : ByteArray)[0]'(by decide) = 10 := rfl
        have cv := cv_byte 10
        rw [show (((10 : UInt8).toNat : Nat) : Int) = 10 from rfl] at cv
        have yo : (10 : UInt8).toNat = 10 := rfl
        obtain ⟨w', cp, hrun, HB', hcp, hcl'⟩ := cv_str ⟨#[94, 110]⟩ (midW T Q 1 10 wr)
        have HM := Aside0.mk (show (midW T Q 1 10 wr).heap.size = wr.heap.size + 2 by unfold midW; simp)
        have z0 := hcl' 0 (by decide)
        have z1 := hcl' 1 (by decide)
        have qn' : w'.cell? ⟨Q, 10, none⟩ = some (.slice none 0 0) := by
          refine (HB'.cell (p := ⟨Q, 10, none⟩) (by have := HM.out; show Q < _; omega)).trans ?_
          unfold midW
          rw [World.cell?_alloc_lt _ _ _ (by simp; omega), World.cell?_alloc_lt _ _ _ (by simp; omega), World.cell?_setCell_other _ _ _ _ (by simp), World.cell?_setCell_other _ _ _ _ (by intro e; have := congrArg Addr.block e; simp at this; have := HQ.out; omega)]
          exact qn
        have fq' : w'.frozen? ⟨Q, 10, none⟩ = false := by
          refine (HB'.frozen (p := ⟨Q, 10, none⟩) (by have := HM.out; show Q < _; omega)).trans ?_
          unfold midW
          rw [World.frozen?_alloc_past _ _ _ (by simp; omega), World.frozen?_alloc_past _ _ _ (by simp; omega)]
          simp [fz]
        have HFin := Aside0.mk (stage_step HSt.out hlt (by have := HT.out; omega) (by have := HT.out; have := HQ.out; omega) (by have := HQ.out; omega) 10 rfl HB' hcp z0 z1)
        have hrun2 : (convert 9 46 (.string ⟨#[94, 110]⟩)).run Tryz.prog ((((wr.setCell ⟨T, 1, none⟩ (.string ⟨#[10]⟩)).setCell ⟨Q, 256, none⟩ (.slice (some ⟨T, 0, none⟩) 2 3)).alloc (.cells #[.int .u8 10] 5)).alloc (.cells #[.string ⟨#[10]⟩] 9)) = .ok (.slice (some ⟨(midW T Q 1 10 wr).heap.size, 0, none⟩) 2 cp) w' := hrun
        obtain ⟨G, hG⟩ : ∃ G, G = (midW T Q 1 10 wr).heap.size := ⟨_, rfl⟩
        rw [← hG] at hrun2 HFin
        clear hrun HB' hcp hcl' z0 z1 HM hG
        go_wp2
        go_roundg g
        case measure => have := HK.out; omega
        case rel => exact ⟨1 + 1, by first | rfl | (go_num; done), by omega, ⟨by have := HK.out; omega⟩, HFin⟩
      · have hz : ob 2 = 94 := rfl
        rw [hz] at qn
        clear hz
        have xo : (⟨#[94]⟩ : ByteArray)[0]'(by decide) = 94 := rfl
        have cv := cv_byte 94
        rw [show (((94 : UInt8).toNat : Nat) : Int) = 94 from rfl] at cv
        have yo : (94 : UInt8).toNat = 94 := rfl
        obtain ⟨w', cp, hrun, HB', hcp, hcl'⟩ := cv_str ⟨#[94, 94]⟩ (midW T Q 2 94 wr)
        have HM := Aside0.mk (show (midW T Q 2 94 wr).heap.size = wr.heap.size + 2 by unfold midW; simp)
        have z0 := hcl' 0 (by decide)
        have z1 := hcl' 1 (by decide)
        have qn' : w'.cell? ⟨Q, 94, none⟩ = some (.slice none 0 0) := by
          refine (HB'.cell (p := ⟨Q, 94, none⟩) (by have := HM.out; show Q < _; omega)).trans ?_
          unfold midW
          rw [World.cell?_alloc_lt _ _ _ (by simp; omega), World.cell?_alloc_lt _ _ _ (by simp; omega), World.cell?_setCell_other _ _ _ _ (by simp), World.cell?_setCell_other _ _ _ _ (by intro e; have := congrArg Addr.block e; simp at this; have := HQ.out; omega)]
          exact qn
        have fq' : w'.frozen? ⟨Q, 94, none⟩ = false := by
          refine (HB'.frozen (p := ⟨Q, 94, none⟩) (by have := HM.out; show Q < _; omega)).trans ?_
          unfold midW
          rw [World.frozen?_alloc_past _ _ _ (by simp; omega), World.frozen?_alloc_past _ _ _ (by simp; omega)]
          simp [fz]
        have HFin := Aside0.mk (stage_step HSt.out hlt (by have := HT.out; omega) (by have := HT.out; have := HQ.out; omega) (by have := HQ.out; omega) 94 rfl HB' hcp z0 z1)
        have hrun2 : (convert 9 46 (.string ⟨#[94, 94]⟩)).run Tryz.prog ((((wr.setCell ⟨T, 2, none⟩ (.string ⟨#[94]⟩)).setCell ⟨Q, 256, none⟩ (.slice (some ⟨T, 0, none⟩) 3 3)).alloc (.cells #[.int .u8 94] 5)).alloc (.cells #[.string ⟨#[94]⟩] 9)) = .ok (.slice (some ⟨(midW T Q 2 94 wr).heap.size, 0, none⟩) 2 cp) w' := hrun
        obtain ⟨G, hG⟩ : ∃ G, G = (midW T Q 2 94 wr).heap.size := ⟨_, rfl⟩
        rw [← hG] at hrun2 HFin
        clear hrun HB' hcp hcl' z0 z1 HM hG
        go_wp2
        go_roundg g
        case measure => have := HK.out; omega
        case rel => exact ⟨2 + 1, by first | rfl | (go_num; done), by omega, ⟨by have := HK.out; omega⟩, HFin⟩
    · have hk3 : k = 3 := by omega
      subst hk3
      go_wp2
      go_ret
      exact ⟨Q, rfl, rt_of_stage (by have := HT.out; omega) (by have := HT.out; have := HQ.out; omega) HSt.out, HSt.out.bel⟩
end Go.Proofs.YtknmbalhbecdhaaGreatDoor.Print
end
section
set_option linter.unusedVariables false
set_option linter.unusedSimpArgs false
namespace Go.Proofs.YtknmbalhbecdhaaGreatDoor.Print
open Go.RowKit Go.Proofs.YtknmbalhbecdhaaGreatDoorW.PrintWords Go.Proofs.YtknmbalhbecdhaaGreatDoorW.PrintLast
theorem on_disable (w : World) : (callFunc 85 #[]).run Tryz.prog w = .ok (.value (.tuple #[])) w := run_call_mark0 Tryz.func85 (by kernel_rfl) (by kernel_rfl) (by kernel_rfl) .disable (by kernel_rfl) w
theorem on_enable (w : World) : (callFunc 87 #[]).run Tryz.prog w = .ok (.value (.tuple #[])) w := run_call_mark0 Tryz.func87 (by kernel_rfl) (by kernel_rfl) (by kernel_rfl) .enable (by kernel_rfl) w
theorem on_acquire (a : Addr) (w : World) : (callFunc 88 #[.pointer (some a)]).run Tryz.prog w = .ok (.value (.tuple #[])) w := run_call_marked Tryz.func88 (by kernel_rfl) (by kernel_rfl) (by kernel_rfl) .acquire (by kernel_rfl) a w
theorem on_releaseMerge (a : Addr) (w : World) : (callFunc 90 #[.pointer (some a)]).run Tryz.prog w = .ok (.value (.tuple #[])) w := run_call_marked Tryz.func90 (by kernel_rfl) (by kernel_rfl) (by kernel_rfl) .releaseMerge (by kernel_rfl) a w
theorem on_store_deferred (a : Addr) (x : Value) (u : FrameMode) (w : World) (hc : w.cell? a = some x) (hz : w.frozen? a = false) :
    CallsD Tryz.prog 71 #[.pointer (some a), .bool true] u w fun e u' w' => u' = u ∧ (e = .returned (.tuple #[]) ∧ w' = w.drew.setCell a (.int .u32 1)) := by
  have hc' : w.drew.cell? a = some x := by go_simp
  have hz' : w.drew.frozen? a = false := by go_simp
  have hst := run_call_store (P := Tryz.prog) Tryz.func81 (by kernel_rfl) (by kernel_rfl) (by kernel_rfl) (by kernel_rfl) (k := .u32) (y := 1) hc' hz'
  go_enter_d Tryz.func71, Tryz.ntmps71
  go_wp2
  go_region_calls
  all_goals (go_end0; exact ⟨rfl, rfl⟩)
set_option maxRecDepth 100000 in
theorem on_lock_in (a : Addr) (w : World) (hc : w.cell? a = some (.int .i32 0)) (hz : w.frozen? a = false) :
    Calls Tryz.prog 79 #[.pointer (some a)] w fun e w' => e = .returned (.tuple #[]) ∧ w' = w.setCell a (.int .i32 1) := by
  have hd := on_disable
  have he := on_enable
  have ha := on_acquire
  have hcas := run_call_cas_hit (P := Tryz.prog) Tryz.func86 (by kernel_rfl) (by kernel_rfl) (by kernel_rfl) .i32 (by kernel_rfl) (y := 1) hc hz
  have hc' : (w.setCell a (.int .i32 1)).cell? a = some (.int .i32 1) := World.cell?_setCell_same w a _ hc
  have hcv := run_convert_to_unsafe (P := Tryz.prog) (src := 146) (dst := 83) Tryz.underlying146 Tryz.underlying83 (by kernel_rfl) hc'
  go_enter Tryz.func79, Tryz.ntmps79
  go_wp2
  first | go_end0 | (simp only [Exit.inBlock, Exit.then]; refine bodyPost_ret (results_none rfl _ _ _) rfl ?_) | refine bodyPost_ret (results_none rfl _ _ _) rfl ?_
  exact ⟨rfl, rfl⟩
theorem on_lock (a : Addr) (w : World) (hc : w.cell? a = some (.int .i32 0)) (hz : w.frozen? a = false) :
    Calls Tryz.prog 69 #[.pointer (some a)] w fun e w' => e = .returned (.tuple #[]) ∧ w' = w.setCell a (.int .i32 1) := by
  go_enter Tryz.func69, Tryz.ntmps69
  go_wp2_with (go_at_call 79; refine (on_lock_in a _ hc hz).mono ?_; rintro e w' ⟨rfl, rfl⟩)
  go_end0
  exact ⟨rfl, rfl⟩
set_option maxRecDepth 100000 in
theorem on_unlock_in (a : Addr) (w : World) (hc : w.cell? a = some (.int .i32 1)) (hz : w.frozen? a = false) :
    Calls Tryz.prog 80 #[.pointer (some a)] w fun e w' => e = .returned (.tuple #[]) ∧ w' = w.setCell a (.int .i32 0) := by
  have hd := on_disable
  have he := on_enable
  have hr := on_releaseMerge
  have hadd := run_call_add (P := Tryz.prog) Tryz.func91 (by kernel_rfl) (by kernel_rfl) (by kernel_rfl) .i32 (by kernel_rfl) (y := -1) (s := 0) hc hz (by simp [go_sem]; rfl)
  have hcv := run_convert_to_unsafe (P := Tryz.prog) (src := 146) (dst := 83) Tryz.underlying146 Tryz.underlying83 (by kernel_rfl) hc
  go_enter Tryz.func80, Tryz.ntmps80
  go_wp2
  go_end0
  exact ⟨rfl, rfl⟩
theorem on_unlock_deferred (a : Addr) (u : FrameMode) (w : World) (hc : w.cell? a = some (.int .i32 1)) (hz : w.frozen? a = false) :
    CallsD Tryz.prog 70 #[.pointer (some a)] u w fun e u' w' => u' = u ∧ (e = .returned (.tuple #[]) ∧ w' = w.setCell a (.int .i32 0)) := by
  go_enter_d Tryz.func70, Tryz.ntmps70
  go_wp2_with (go_at_call 80; refine (on_unlock_in a _ hc hz).mono ?_; rintro e w' ⟨rfl, rfl⟩)
  go_end0
  exact ⟨rfl, rfl⟩
/-- What buildOnce leaves. -/
def OnB (p : Nat) (w : World) (e : Ending) (w' : World) : Prop := ∃ q w1, e = .returned (.tuple #[]) ∧ RTA w.heap.size q w1 ∧ Below w.heap.size w w1 ∧ w' = (w1.setCell ⟨p, 3, none⟩ (.iface 128 (.pointer (some ⟨q, 0, none⟩)))).setCell ⟨p, 4, none⟩ (.slice none 0 0)
set_option maxRecDepth 100000 in
theorem buildOnce_walk (p c cap : Nat) (w : World) (h3 : w.cell? ⟨p, 3, none⟩ = some .nilIface) (h4 : w.cell? ⟨p, 4, none⟩ = some (.slice (some ⟨c, 0, none⟩) 6 cap)) (f3 : w.frozen? ⟨p, 3, none⟩ = false) (f4 : w.frozen? ⟨p, 4, none⟩ = false) (six : Six c w) :
    Calls Tryz.prog 53 #[.pointer (some ⟨p, 0, none⟩)] w (OnB p w) := by
  have hpl : p < w.heap.size := cellLt h3
  have HS := Aside0.mk six
  clear six
  go_enter Tryz.func53, Tryz.ntmps53
  go_wp2_with fail
  go_at_call 60
  refine (build_walk p c cap _ h4 HS.out).mono ?_
  rintro e w1 ⟨q, rfl, hR, hB⟩
  have g3 := (hB.cell (p := ⟨p, 3, none⟩) hpl).trans h3
  have g4 := (hB.cell (p := ⟨p, 4, none⟩) hpl).trans h4
  have e3 := (hB.frozen (p := ⟨p, 3, none⟩) hpl).trans f3
  have e4 := (hB.frozen (p := ⟨p, 4, none⟩) hpl).trans f4
  have HF := Aside0.mk (And.intro hR hB)
  clear hR hB
  go_wp2_with fail
  go_end0
  exact ⟨q, w1, rfl, HF.out.1, HF.out.2, rfl⟩
theorem on_load (a : Addr) (w : World) (h : w.cell? a = some (.int .u32 0)) :
    Calls Tryz.prog 58 #[.pointer (some a)] w fun e w' => e = .returned (.bool false) ∧ w' = w := by
  have hl := run_call_load (P := Tryz.prog) Tryz.func68 (by kernel_rfl) (by kernel_rfl) (by kernel_rfl) .u32 (by kernel_rfl) h
  go_enter Tryz.func58, Tryz.ntmps58
  go_wp2
  go_ret
  exact ⟨rfl, rfl⟩
/-- What the first Do leaves. -/
def OnD (p : Nat) (w : World) (e : Ending) (w' : World) : Prop := ∃ q, e = .returned (.tuple #[]) ∧ RTA w.heap.size q w' ∧ w'.cell? ⟨p, 3, none⟩ = some (.iface 128 (.pointer (some ⟨q, 0, none⟩))) ∧ Below p w w'
theorem oneOff {p i j : Nat} (h : i ≠ j) : (⟨p, i, none⟩ : Addr) ≠ ⟨p, j, none⟩ := fun e => h (congrArg Addr.off e)
set_option maxRecDepth 100000 in
set_option maxHeartbeats 1600000 in
theorem slow_walk (p c cap : Nat) (w : World) (h0 : w.cell? ⟨p, 0, none⟩ = some (.int .u32 0)) (h1 : w.cell? ⟨p, 1, none⟩ = some (.int .i32 0)) (h3 : w.cell? ⟨p, 3, none⟩ = some .nilIface) (h4 : w.cell? ⟨p, 4, none⟩ = some (.slice (some ⟨c, 0, none⟩) 6 cap))
    (fz : ∀ i, w.frozen? ⟨p, i, none⟩ = false) (six : Six c w) (hcp : c < p) :
    Calls Tryz.prog 59 #[.pointer (some ⟨p, 0, none⟩), .func (.func 53) #[.pointer (some ⟨p, 0, none⟩)] #[]] w (OnD p w) := by
  have hpl : p < w.heap.size := cellLt h0
  have g0 : (w.setCell ⟨p, 1, none⟩ (.int .i32 1)).cell? ⟨p, 0, none⟩ = some (.int .u32 0) := (World.cell?_setCell_other _ _ _ _ (oneOff (by omega))).trans h0
  have g3 : (w.setCell ⟨p, 1, none⟩ (.int .i32 1)).cell? ⟨p, 3, none⟩ = some .nilIface := (World.cell?_setCell_other _ _ _ _ (oneOff (by omega))).trans h3
  have g4 : (w.setCell ⟨p, 1, none⟩ (.int .i32 1)).cell? ⟨p, 4, none⟩ = some (.slice (some ⟨c, 0, none⟩) 6 cap) := (World.cell?_setCell_other _ _ _ _ (oneOff (by omega))).trans h4
  have f3 : (w.setCell ⟨p, 1, none⟩ (.int .i32 1)).frozen? ⟨p, 3, none⟩ = false := by simp [fz]
  have f4 : (w.setCell ⟨p, 1, none⟩ (.int .i32 1)).frozen? ⟨p, 4, none⟩ = false := by simp [fz]
  have six1 : Six c (w.setCell ⟨p, 1, none⟩ (.int .i32 1)) := by
    have ne : ∀ i, (⟨p, 1, none⟩ : Addr) ≠ ⟨c, i, none⟩ := fun i e => by have := congrArg Addr.block e; simp at this; omega
    exact ⟨(World.cell?_setCell_other _ _ _ _ (ne _)).trans six.h0, (World.cell?_setCell_other _ _ _ _ (ne _)).trans six.h1, (World.cell?_setCell_other _ _ _ _ (ne _)).trans six.h2, (World.cell?_setCell_other _ _ _ _ (ne _)).trans six.h3, (World.cell?_setCell_other _ _ _ _ (ne _)).trans six.h4, (World.cell?_setCell_other _ _ _ _ (ne _)).trans six.h5⟩
  have HS := Aside0.mk six1
  clear six six1
  have hsz : (w.setCell ⟨p, 1, none⟩ (.int .i32 1)).heap.size = w.heap.size := by simp
  have HZ := Aside0.mk hsz
  clear hsz
  have hnot : ∀ (x : Bool) (w : World), (Op.unary .not (.bool x)).run Tryz.prog w = .ok (.bool (!x)) w := fun _ _ => rfl
  have hz1 := fz 1
  go_enter_defers Tryz.func59, Tryz.ntmps59
  go_wp2_with (first | (go_at_call 69; refine (on_lock ⟨p, 1, none⟩ _ h1 hz1).mono ?_; rintro e w' ⟨rfl, rfl⟩) | (go_at_call 58; refine (on_load ⟨p, 0, none⟩ _ g0).mono ?_; rintro e w' ⟨rfl, rfl⟩))
  go_at_call 53
  refine (buildOnce_walk p c cap _ g3 g4 f3 f4 HS.out).mono ?_
  rintro e w2 ⟨q, w1, rfl, hR, hB, rfl⟩
  have HF := Aside0.mk (And.intro hR hB)
  clear hR hB
  have hpl1 : p < w1.heap.size := by have := HF.out.2.size; have := HZ.out; omega
  have k0 := (HF.out.2.cell (p := ⟨p, 0, none⟩) (by rw [HZ.out]; exact hpl)).trans g0
  have k1 := (HF.out.2.cell (p := ⟨p, 1, none⟩) (by rw [HZ.out]; exact hpl)).trans (World.cell?_setCell_same w ⟨p, 1, none⟩ (.int .i32 1) h1)
  have k3 := (HF.out.2.cell (p := ⟨p, 3, none⟩) (by rw [HZ.out]; exact hpl)).trans g3
  have zf : ∀ i, w1.frozen? ⟨p, i, none⟩ = false := fun i => (HF.out.2.frozen (p := ⟨p, i, none⟩) (by rw [HZ.out]; exact hpl)).trans (by simp [fz])
  go_wp2_with fail
  refine leaves_cons (f := 71) (args := #[.pointer (some ⟨p, 0, none⟩), .bool true]) (by simp) (by simp [go_sem]) ?_
  refine (on_store_deferred ⟨p, 0, none⟩ (.int .u32 0) .returning _ ?_ (by simp [zf])).mono ?_
  · exact (World.cell?_setCell_other _ _ _ _ (oneOff (by omega))).trans ((World.cell?_setCell_other _ _ _ _ (oneOff (by omega))).trans k0)
  rintro e u' w'' ⟨rfl, rfl, rfl⟩
  refine leaves_cons (f := 70) (args := #[.pointer (some ⟨p, 1, none⟩)]) (by simp [settle]) (by simp [go_sem]) ?_
  refine (on_unlock_deferred ⟨p, 1, none⟩ _ _ ?_ (by simp [zf])).mono ?_
  · refine (World.cell?_setCell_other _ _ _ _ (oneOff (by omega))).trans ?_
    rw [World.cell?_drew]
    exact (World.cell?_setCell_other _ _ _ _ (oneOff (by omega))).trans ((World.cell?_setCell_other _ _ _ _ (oneOff (by omega))).trans k1)
  rintro e u' w'' ⟨rfl, rfl, rfl⟩
  have hR := HF.out.1
  rw [HZ.out] at hR
  have hfin : OnD p w (.returned (.tuple #[])) ((((w1.setCell ⟨p, 3, none⟩ (.iface 128 (.pointer (some ⟨q, 0, none⟩)))).setCell ⟨p, 4, none⟩ (.slice none 0 0)).drew.setCell ⟨p, 0, none⟩ (.int .u32 1)).setCell ⟨p, 1, none⟩ (.int .i32 0)) := by
    refine ⟨q, rfl, ((((hR.set ⟨p, 3, none⟩ hpl _).set ⟨p, 4, none⟩ hpl _).drew).set ⟨p, 0, none⟩ hpl _).set ⟨p, 1, none⟩ hpl _, ?_, ?_⟩
    · rw [World.cell?_setCell_other _ _ _ _ (oneOff (by omega)), World.cell?_setCell_other _ _ _ _ (oneOff (by omega)), World.cell?_drew, World.cell?_setCell_other _ _ _ _ (oneOff (by omega))]
      exact World.cell?_setCell_same _ _ _ k3
    · have b0 := ((Below.refl p w).setCell (p := ⟨p, 1, none⟩) (Nat.le_refl _) (.int .i32 1)).trans (HF.out.2.mono (by rw [HZ.out]; omega))
      exact ((((b0.setCell (p := ⟨p, 3, none⟩) (Nat.le_refl _) _).setCell (p := ⟨p, 4, none⟩) (Nat.le_refl _) _).drew).setCell (p := ⟨p, 0, none⟩) (Nat.le_refl _) _).setCell (p := ⟨p, 1, none⟩) (Nat.le_refl _) _
  simp only [Leaves, settle, results, Tryz.results59]
  exact ⟨_, by simp, hfin⟩
set_option maxRecDepth 100000 in
theorem do_walk (p c cap : Nat) (w : World) (h0 : w.cell? ⟨p, 0, none⟩ = some (.int .u32 0)) (h1 : w.cell? ⟨p, 1, none⟩ = some (.int .i32 0)) (h3 : w.cell? ⟨p, 3, none⟩ = some .nilIface) (h4 : w.cell? ⟨p, 4, none⟩ = some (.slice (some ⟨c, 0, none⟩) 6 cap))
    (fz : ∀ i, w.frozen? ⟨p, i, none⟩ = false) (six : Six c w) (hcp : c < p) :
    Calls Tryz.prog 52 #[.pointer (some ⟨p, 0, none⟩), .func (.func 53) #[.pointer (some ⟨p, 0, none⟩)] #[]] w (OnD p w) := by
  have HS := Aside0.mk six
  clear six
  have hnot : ∀ (x : Bool) (w : World), (Op.unary .not (.bool x)).run Tryz.prog w = .ok (.bool (!x)) w := fun _ _ => rfl
  go_enter Tryz.func52, Tryz.ntmps52
  go_wp2_with (go_at_call 58; refine (on_load ⟨p, 0, none⟩ _ h0).mono ?_; rintro e w' ⟨rfl, rfl⟩)
  go_at_call 59
  refine (slow_walk p c cap _ h0 h1 h3 h4 fz HS.out hcp).mono ?_
  rintro e w2 ⟨q, rfl, hR, h8, hB⟩
  have HF := Aside0.mk (And.intro hR (And.intro h8 hB))
  clear hR hB h8
  go_wp2_with fail
  go_end0
  exact ⟨q, rfl, HF.out⟩
theorem meth_Replace (q : Nat) (w : World) : (Go.method 290 128 (.pointer (some ⟨q, 0, none⟩)) "Replace").run Tryz.prog w = .ok (130, .pointer (some ⟨q, 0, none⟩)) w := by kernel_rfl
set_option maxRecDepth 100000 in
theorem repl_walk (p c cap : Nat) (s : ByteArray) (w : World) (h : RN p c cap w) (hcp : c < p) (hs : s.size ≤ 2000000000) :
    Calls Tryz.prog 42 #[.pointer (some ⟨p, 0, none⟩), .string s] w fun e w' => e = .returned (.string ⟨(parT s.data.toList).toArray⟩) ∧ Below p w w' := by
  have h0 : w.cell? ⟨p, 0, none⟩ = some (.int .u32 0) := by rw [cell_blk h.blk]; rfl
  have h1 : w.cell? ⟨p, 1, none⟩ = some (.int .i32 0) := by rw [cell_blk h.blk]; rfl
  have h3 : w.cell? ⟨p, 3, none⟩ = some .nilIface := by rw [cell_blk h.blk]; rfl
  have h4 : w.cell? ⟨p, 4, none⟩ = some (.slice (some ⟨c, 0, none⟩) 6 cap) := by rw [cell_blk h.blk]; rfl
  have fz : ∀ i, w.frozen? ⟨p, i, none⟩ = false := fun i => froz_blk h.blk i
  have HS := Aside0.mk h.six
  have hpl : p < w.heap.size := cellLt h0
  have hmf : ∀ (fn : Fn) (first cap : Array Value) (w : World), (Instr.makeFunc fn first cap).run Tryz.prog w = .ok (.func fn first cap) w := fun _ _ _ _ => rfl
  clear h
  go_enter Tryz.func42, Tryz.ntmps42
  go_wp2_with fail
  go_at_call 52
  refine (do_walk p c cap _ h0 h1 h3 h4 fz HS.out hcp).mono ?_
  rintro e w2 ⟨q, rfl, hR, h8, hB⟩
  have HF := Aside0.mk (And.intro hR hB)
  clear hR hB h0 h1 h3 h4 fz
  have hme := meth_Replace
  go_wp2_with fail
  go_at_call 130
  refine (bsr_walk q s _ HF.out.1.rt hs).mono ?_
  rintro e w3 ⟨rfl, hB3⟩
  have H3 := Aside0.mk hB3
  clear hB3
  go_wp2_with fail
  go_ret
  exact ⟨rfl, HF.out.2.trans (H3.out.mono (by have := HF.out.2.size; omega))⟩
end Go.Proofs.YtknmbalhbecdhaaGreatDoor.Print
end
section
set_option linter.unusedVariables false
set_option linter.unusedSimpArgs false
namespace Go.Proofs.YtknmbalhbecdhaaGreatDoor.Print
open Go.RowKit Go.Proofs.YtknmbalhbecdhaaGreatDoorW.PrintWords Go.Proofs.YtknmbalhbecdhaaGreatDoorW.PrintLast
theorem contains_quo (l : List UInt8) : Lib.containsAny l [58, 59, 44] = l.any quoB := by
  unfold Lib.containsAny
  induction l with
  | nil => rfl
  | cons b t ih =>
    have hge := Lib.indexAny_ge [58, 59, 44] t
    have hc : ([58, 59, 44] : List UInt8).contains b = quoB b := by
      simp only [List.contains, List.elem_cons, List.elem_nil, quoB, Bool.or_false]
      cases b == 58 <;> cases b == 59 <;> cases b == 44 <;> rfl
    rw [List.any_cons, ← ih, Lib.indexAny, hc]
    cases quoB b with
    | true => simp
    | false =>
      simp only [Bool.false_eq_true, if_false, Bool.false_or]
      by_cases hm : Lib.indexAny t [58, 59, 44] = -1
      · rw [hm]; rfl
      · rw [if_neg (by simpa using hm)]
        rw [decide_eq_true (by omega), decide_eq_true (by omega)]
theorem parB_quo (c : UInt8) : (parB c).any quoB = quoB c := by
  by_cases h1 : c = 94
  · subst h1; rfl
  by_cases h2 : c = 10
  · subst h2; rfl
  by_cases h3 : c = 34
  · subst h3; rfl
  unfold parB
  rw [if_neg h1, if_neg h2, if_neg h3]; simp
theorem parT_quo (l : List UInt8) : (parT l).any quoB = l.any quoB := by
  induction l with
  | nil => rfl
  | cons c t ih => rw [parT_cons, List.any_append, List.any_cons, ih, parB_quo]
theorem Param_bad (k : Nat) (s : ByteArray) (z : Int) (hz : z ≠ 0) (w : World) (hG : GG w) (hC : Aside0 (escape_Clean.f k s true = some z)) :
    Calls Tryz.prog 20 #[.string s] w fun e w' => e = .returned (.tuple #[.string ⟨#[]⟩, .int .i64 z]) ∧ Below w.heap.size w w' := by
  have hz1 : (z == 0) = false := beq_eq_false_iff_ne.2 hz
  have hz2 : (z != 0) = true := bne_iff_ne.2 hz
  clear hz
  go_enter Tryz.func20, Tryz.ntmps20
  go_wp2_with (go_at_call 25; refine (escape_Clean.calls k s true z _ hG hC.out).mono ?_; rintro e w1 ⟨rfl, hb1⟩)
  go_ret2
  exact ⟨rfl, hb1⟩
/-- The six strings, as Param lays them. -/
def sixB : Array Value := #[.string ⟨#[94]⟩, .string ⟨#[94, 94]⟩, .string ⟨#[10]⟩, .string ⟨#[94, 110]⟩, .string ⟨#[34]⟩, .string ⟨#[94, 39]⟩]
theorem six_alloc (w : World) : Six w.heap.size (w.alloc (.cells sixB 9)) := by
  constructor <;> (rw [World.cell?_alloc_at _ _ _ _ rfl]; rfl)
set_option maxHeartbeats 8000000 in
set_option maxRecDepth 100000 in
theorem Param_ok (k : Nat) (s : ByteArray) (w : World) (hG : GG w) (hs : s.size ≤ 2000000000) (hC : Aside0 (escape_Clean.f k s true = some 0)) :
    Calls Tryz.prog 20 #[.string s] w fun e w' => e = .returned (.tuple #[.string (parW s), .int .i64 0]) ∧ Below w.heap.size w w' := by
  go_enter Tryz.func20, Tryz.ntmps20
  go_wp2_with (go_at_call 25; refine (escape_Clean.calls k s true 0 _ hG hC.out).mono ?_; rintro e w1 ⟨rfl, hb1⟩; have HB1 := Aside0.mk hb1; clear hb1)
  go_at_call 41
  refine (new_walk w1.heap.size _ (six_alloc w1)).mono ?_
  rintro e w2 ⟨p, c, cap, rfl, hR, hc, hcp, hB2⟩
  have HN := Aside0.mk (And.intro hR (And.intro hc (And.intro hcp hB2)))
  clear hR hc hcp hB2
  go_wp2_with fail
  go_at_call 42
  refine (repl_walk p c cap s _ HN.out.1 HN.out.2.2.1 hs).mono ?_
  rintro e w3 ⟨rfl, hB3⟩
  have H3 : Aside0 (Below w.heap.size w w3) := ⟨by
    have b1 := HB1.out
    have b2 := HN.out.2.2.2
    have hc := HN.out.2.1
    have hcp := HN.out.2.2.1
    have e1 : (w1.alloc (.cells sixB 9)).heap.size = w1.heap.size + 1 := by simp
    have ea : w1.heap.size + 1 ≤ c := by rw [← e1]; exact hc
    refine ((b1.alloc b1.size (.cells sixB 9)).trans (b2.mono (by rw [e1]; have := b1.size; omega))).trans (hB3.mono (by have := b1.size; omega))⟩
  clear hB3
  have hpl := parT_le s.data.toList
  have hsl : s.data.toList.length = s.size := by simp
  have hps : (⟨(parT s.data.toList).toArray⟩ : ByteArray).size = (parT s.data.toList).length := by simp [ByteArray.size]
  have hcf : strings_ContainsAny.f ⟨(parT s.data.toList).toArray⟩ ⟨#[58, 59, 44]⟩ = some (s.data.toList.any quoB) := by
    unfold strings_ContainsAny.f
    rw [if_pos ⟨by rw [hps]; omega, by decide, by decide, by decide⟩]
    show some (Lib.containsAny (parT s.data.toList) [58, 59, 44]) = _
    rw [contains_quo, parT_quo]
  have HC := Aside0.mk hcf
  have HP := Aside0.mk (And.intro hpl (And.intro hsl hps))
  clear hcf hpl hsl hps
  obtain ⟨P, hP⟩ : ∃ P : ByteArray, P = ⟨(parT s.data.toList).toArray⟩ := ⟨_, rfl⟩
  rw [← hP] at HC HP ⊢
  have HPd := Aside0.mk hP
  clear hP
  by_cases hq : s.data.toList.any quoB = true
  · rw [hq] at HC
    have b1 : (9223372036854775807 < 1 + P.size) = False := eq_false (by have := HP.out; omega)
    have b2 : (9223372036854775807 < 1 + P.size + 1) = False := eq_false (by have := HP.out; omega)
    have HQ := Aside0.mk hq
    clear hq
    go_wp2_with (go_at_call 43; refine (strings_ContainsAny.calls _ _ true _ (hG.below H3.out) HC.out).mono ?_; rintro e w4 ⟨rfl, hB4⟩; have H4 := Aside0.mk hB4; clear hB4)
    go_ret2
    refine ⟨?_, H3.out.trans (H4.out.mono H3.out.size)⟩
    have : parW s = ⟨#[34]⟩ ++ P ++ ⟨#[34]⟩ := by
      unfold parW parL
      rw [if_pos HQ.out, HPd.out]
      rfl
    rw [this]; rfl
  · rw [Bool.not_eq_true] at hq
    rw [hq] at HC
    have HQ := Aside0.mk hq
    clear hq
    go_wp2_with (go_at_call 43; refine (strings_ContainsAny.calls _ _ false _ (hG.below H3.out) HC.out).mono ?_; rintro e w4 ⟨rfl, hB4⟩; have H4 := Aside0.mk hB4; clear hB4)
    go_ret2
    refine ⟨?_, H3.out.trans (H4.out.mono H3.out.size)⟩
    have : parW s = P := by
      unfold parW parL
      rw [if_neg (by rw [HQ.out]; simp), HPd.out]
    rw [this]; rfl
theorem escape_Param.calls (k : Nat) (a0 : ByteArray) (r1 : ByteArray) (r2 : Int) (w : World) (hG : GG w) (h : escape_Param.f k a0 = some (r1, r2)) :
    Calls Tryz.prog 20 #[.string a0] w fun e w' => e = .returned (.tuple #[.string r1, .int .i64 r2]) ∧ Below w.heap.size w w' := by
  unfold escape_Param.f at h
  obtain ⟨z, hz, h⟩ := Option.bind_eq_some_iff.1 h
  by_cases h0 : z = 0
  · rw [if_pos h0] at h
    subst h0
    by_cases hs : a0.size ≤ 2000000000
    · rw [if_pos hs] at h
      obtain ⟨rfl, rfl⟩ := Prod.mk.inj (Option.some.inj h)
      exact Param_ok k a0 w hG hs ⟨hz⟩
    · rw [if_neg hs] at h; cases h
  · rw [if_neg h0] at h
    obtain ⟨rfl, rfl⟩ := Prod.mk.inj (Option.some.inj h)
    exact Param_bad k a0 _ h0 w hG ⟨hz⟩
end Go.Proofs.YtknmbalhbecdhaaGreatDoor.Print
end
section
set_option linter.unusedVariables false
set_option linter.unusedSimpArgs false
namespace Go.Proofs.YtknmbalhbecdhaaGreatDoor.Print
open Go.RowKit Go.Proofs.YtknmbalhbecdhaaGreatDoorW.PrintWords Go.Proofs.YtknmbalhbecdhaaGreatDoorW.PrintLast
/-- A parameter's values, each with the byte ahead of it. -/
def valsT : List ByteArray → UInt8 → List UInt8
  | [], _ => []
  | v :: t, b => b :: parL v.data.toList ++ valsT t 44
def parsT : List S53 → List UInt8
  | [] => []
  | p :: t => 59 :: p.f0.data.toList ++ valsT p.f1 61 ++ parsT t
def lineT (nm : ByteArray) (l : List S53) (v : ByteArray) : List UInt8 := nm.data.toList ++ parsT l ++ 58 :: v.data.toList
def cleanAll (k : Nat) (l : List S53) : Bool := l.all fun p => p.f1.all fun x => decide (escape_Clean.f k x true = some 0)
def lineR (nm : ByteArray) (l : List S53) (v : ByteArray) : ByteArray × Int := if 2000 < (lineT nm l v).length then (⟨#[]⟩, 4) else (⟨(lineT nm l v).toArray⟩, 0)
def line_Print.f (k : Nat) (nm : ByteArray) (l : List S53) (v : ByteArray) : Option (ByteArray × Int) :=
  (line_Formed.f k nm l v).bind fun ok => if ok = true then (if cleanAll k l = true ∧ (lineT nm l v).length ≤ 1000000000 then some (lineR nm l v) else none) else some (⟨#[]⟩, 1)
theorem print_bad (k : Nat) (nm : ByteArray) (A : Option Addr) (c : Nat) (l : List S53) (v : ByteArray) (w : World) (hG : GG w) (hr : Kd.C k53 w A l.length l) (hc : l.length ≤ c) (h : line_Formed.f k nm l v = some false) :
    Calls Tryz.prog 8 #[.agg #[.string nm, .slice A l.length c, .string v]] w fun e w' => e = .returned (.tuple #[.string ⟨#[]⟩, .int .i64 1]) ∧ Below w.heap.size w w' := by
  have H := Aside0.mk h
  have hnot : ∀ (x : Bool) (w : World), (Op.unary .not (.bool x)).run Tryz.prog w = .ok (.bool (!x)) w := fun _ _ => rfl
  clear h
  go_enter Tryz.func8, Tryz.ntmps8
  go_wp2_with fail
  go_at_call 11
  refine (line_Formed.calls k nm A c l v false _ (hG.alloc _) (Kd.C_below hr (below_alloc (Below.refl _ _) _)) hc H.out).mono ?_
  rintro e w1 ⟨rfl, hB⟩
  have HB := Aside0.mk ((below_alloc (Below.refl _ _) _).trans (hB.mono (by simp)))
  clear hB
  go_wp2_with fail
  go_ret2
  exact ⟨rfl, HB.out⟩
theorem parL_len (l : List UInt8) : l.length ≤ (parL l).length := by
  have h : l.length ≤ (parT l).length := by
    induction l with
    | nil => simp [parT]
    | cons c t ih =>
      rw [parT_cons, List.length_append, List.length_cons]
      have : 1 ≤ (parB c).length := by unfold parB; split <;> (try split) <;> (try split) <;> simp
      omega
  unfold parL; split
  · simp; omega
  · exact h
theorem valsT_at (l : List ByteArray) (b : UInt8) (i : Nat) (hi : i < l.length) : valsT (l.drop i) b = b :: parL l[i].data.toList ++ valsT (l.drop (i + 1)) 44 := by
  rw [List.drop_eq_getElem_cons hi]; rfl
theorem parsT_at (l : List S53) (i : Nat) (hi : i < l.length) : parsT (l.drop i) = 59 :: l[i].f0.data.toList ++ valsT l[i].f1 61 ++ parsT (l.drop (i + 1)) := by
  rw [List.drop_eq_getElem_cons hi]; rfl
theorem gblkc {w : World} {g : Nat} {cs : Array Value} {t : TypeId} {fr : Nat × Nat} (h : w.heap[g]? = some (.cells cs t fr)) (j : Nat) : w.cell? ⟨g, j, none⟩ = cs[j]? := by simp [World.cell?, h]
theorem kept53 {b g : Nat} {w w' : World} {cs : Array Value} {t : TypeId} (h : Lib.OthersKept 5 (some b) w w') (hg : w.heap[g]? = some (.cells cs t (0, 0))) (ht : t ≠ 5) (hgb : g ≠ b) : w'.heap[g]? = some (.cells cs t (0, 0)) := h g _ hg (by intro e; injection e with e; exact hgb e) (by intro c fz e; injection e with _ e2; exact ht e2)
set_option maxHeartbeats 800000 in
set_option maxRecDepth 100000 in
theorem print_ok (k : Nat) (nm : ByteArray) (A : Option Addr) (c : Nat) (l : List S53) (v : ByteArray) (w : World) (hG : GG w) (hr : Kd.C k53 w A l.length l) (hc : l.length ≤ c) (h : line_Formed.f k nm l v = some true) (hcl : cleanAll k l = true) (hlen : (lineT nm l v).length ≤ 1000000000) :
    Calls Tryz.prog 8 #[.agg #[.string nm, .slice A l.length c, .string v]] w fun e w' => e = .returned (.tuple #[.string (lineR nm l v).1, .int .i64 (lineR nm l v).2]) ∧ Below w.heap.size w w' := by
  have H := Aside0.mk h
  have HC := Aside0.mk hcl
  have HR := Aside0.mk hr
  have HLE := Aside0.mk hlen
  have hlm := hr.2.1
  have hnot : ∀ (x : Bool) (w : World), (Op.unary .not (.bool x)).run Tryz.prog w = .ok (.bool (!x)) w := fun _ _ => rfl
  clear h hcl hlen
  obtain ⟨n, hn⟩ : ∃ n, n = l.length := ⟨_, rfl⟩
  have HN := Aside0.mk hn
  clear hr
  rw [← hn] at hlm hc ⊢
  clear hn
  go_enter Tryz.func8, Tryz.ntmps8
  go_wp2_with fail
  go_at_call 11
  rw [HN.out]
  refine (line_Formed.calls k nm A c l v true _ (hG.alloc _) (Kd.C_below HR.out (below_alloc (Below.refl _ _) _)) (by have := HN.out; omega) H.out).mono ?_
  rintro e w1 ⟨rfl, hB⟩
  rw [← HN.out]
  obtain ⟨X, hX⟩ : ∃ X, X = w.heap.size := ⟨_, rfl⟩
  have HB := Aside0.mk ((below_alloc (Below.refl w.heap.size w) _).trans (hB.mono (by simp)))
  have hbx : w1.heap[X]? = some (.cells #[.string nm, .slice A n c, .string v] 32 (0, 0)) := by
    rw [HN.out, hX]; exact (hB.block w.heap.size (by simp)).trans (heap_alloc_new w _)
  have HXB := Aside0.mk hbx
  have hXl : X < w1.heap.size := (Array.getElem?_eq_some_iff.1 hbx).1
  rw [← hX]
  have HXs := Aside0.mk hX
  clear hB hX
  have x0 := gblkc hbx 0
  have x1 := gblkc hbx 1
  have x2 := gblkc hbx 2
  clear hbx
  go_wp2_with fail
  obtain ⟨B, hBd⟩ : ∃ B, B = w1.heap.size := ⟨_, rfl⟩
  have HBd := Aside0.mk hBd
  have HH0 : Aside0 (Bld.Has B B [] (w1.alloc (.cells #[.pointer none, .slice none 0 0] 48))) := ⟨by rw [hBd]; exact Bld.Has.new _ _ (Nat.le_refl _)⟩
  have HB0 : Aside0 (Below B w1 (w1.alloc (.cells #[.pointer none, .slice none 0 0] 48))) := ⟨by rw [hBd]; exact (Below.refl _ _).alloc (Nat.le_refl _) _⟩
  rw [← hBd]
  have hXB : X < B := by omega
  clear hBd
  have HPL : Aside0 (nm.data.toList.length + (parsT l).length + 1 + v.size ≤ 1000000000) := ⟨by
    have := HLE.out; unfold lineT at this; rw [List.length_append, List.length_append, List.length_cons] at this
    have e : v.data.toList.length = v.size := by simp
    omega⟩
  go_at_call 19
  refine (Bld.ws B B [] nm _ HH0.out (by have := HPL.out; have e : nm.data.toList.length = nm.size := by simp
                                         simp only [List.length_nil]; omega) (by have := HBd.out; simp; omega)).mono ?_
  rintro e w2 ⟨rfl, hH2, hB2, _⟩
  have HH2 := Aside0.mk hH2
  have HB2 := Aside0.mk (HB0.out.trans hB2)
  clear hH2 hB2 HH0 HB0
  have HXC := Aside0.mk x2
  have y1 := (HB2.out.cell (p := ⟨X, 1, none⟩) hXB).trans x1
  have y2 := (HB2.out.cell (p := ⟨X, 2, none⟩) hXB).trans x2
  clear x0 x1 x2
  go_wp2_with fail
  rw [List.nil_append] at HH2
  go_loopg [21] n (fun g v21 wr => ∃ i : Nat, v21 = .int .i64 i ∧ i ≤ n ∧ Aside0 (n ≤ i + g) ∧ Aside0 (∃ acc, Bld.Has B B acc wr ∧ acc ++ parsT (l.drop i) = nm.data.toList ++ parsT l) ∧ Aside0 (Below B w1 wr))
  case atStart => exact ⟨0, rfl, by omega, ⟨by omega⟩, ⟨_, HH2.out, by rw [List.drop_zero]⟩, HB2⟩
  case round =>
    obtain ⟨i, rfl, hi, HI, HH, HBr⟩ := hrel
    obtain ⟨acc, hH, hacc⟩ := HH.out
    have HHr := Aside0.mk hH
    have HAC := Aside0.mk hacc
    clear hH hacc HH2 HB2
    by_cases hlt : i < n
    · cases gk with
      | zero => exfalso; have := HI.out; omega
      | succ g =>
      have hil : i < l.length := by have := HN.out; omega
      obtain ⟨b0, o0, A2, c2, e0, p0, p1, hc2, hC2⟩ := par_at (Kd.C_below HR.out HB.out) i hil
      subst e0
      have hpt := parsT_at l i hil
      obtain ⟨p, hp⟩ : ∃ p, p = l[i] := ⟨_, rfl⟩
      have hpd : l.getD i z53 = p := by rw [List.getD_eq_getElem?_getD, List.getElem?_eq_getElem hil, hp]; rfl
      rw [hpd] at p0 p1 hc2 hC2
      rw [← hp] at hpt
      have HPT := Aside0.mk hpt
      have HCL : Aside0 (∀ x ∈ p.f1, escape_Clean.f k x true = some 0) := ⟨fun x hx => by
        have h1 := List.all_eq_true.1 HC.out p (by rw [hp]; exact List.getElem_mem hil)
        exact of_decide_eq_true (List.all_eq_true.1 h1 x hx)⟩
      have hbl : b0 < w1.heap.size := cellLt0 p0
      have hbB : b0 < B := by have := HBd.out; omega
      have q0 := (HBr.out.cell (p := ⟨b0, o0 + i * 2, none⟩) hbB).trans p0
      have q1 := (HBr.out.cell (p := ⟨b0, o0 + i * 2 + 1, none⟩) hbB).trans p1
      have HCV := Aside0.mk hC2
      have hsm := hC2.2.1
      have HSZ : Aside0 (acc.length + (1 + p.f0.size + (valsT p.f1 61).length + (parsT (l.drop (i + 1))).length) ≤ 1000000000) := ⟨by
        have e := congrArg List.length HAC.out
        rw [HPT.out] at e
        simp only [List.length_append, List.length_cons] at e
        have e2 : p.f0.data.toList.length = p.f0.size := by simp
        have := HPL.out
        omega⟩
      have b1 : (9223372036854775807 < 1 + p.f0.size) = False := eq_false (by have := HSZ.out; omega)
      have hwB : B ≤ wr.heap.size := by have := HBr.out.size; have := HBd.out; omega
      obtain ⟨m, hm⟩ : ∃ m, m = p.f1.length := ⟨_, rfl⟩
      have HM := Aside0.mk hm
      rw [← hm] at q1 hsm
      clear hp hpd hpt hc2 hC2 p0 p1 hbl hm y1 y2
      go_wp2_with fail
      go_at_call 19
      refine (Bld.ws B B acc _ _ (HHr.out.below (below_alloc (Below.refl _ _) _)) (by have := HSZ.out; rw [ByteArray.size_append]; show acc.length + (1 + p.f0.size) ≤ _; omega) (by simp; omega)).mono ?_
      rintro e w3 ⟨rfl, hH3, hB3, hk3⟩
      obtain ⟨Pb, hPb⟩ : ∃ Pb, Pb = wr.heap.size := ⟨_, rfl⟩
      have hpb : w3.heap[Pb]? = some (.cells #[.string p.f0, .slice A2 m c2] 53 (0, 0)) := by
        rw [hPb]
        exact kept53 hk3 (heap_alloc_new wr _) (by decide) (by have := HHr.out.lt; omega)
      have z1 := gblkc hpb 1
      have HH3 : Aside0 (Bld.Has B B (acc ++ [59] ++ p.f0.data.toList) w3) := ⟨by
        have e : (⟨#[59]⟩ ++ p.f0 : ByteArray).data.toList = [59] ++ p.f0.data.toList := by simp
        rw [e, ← List.append_assoc] at hH3; exact hH3⟩
      have HB3 := Aside0.mk ((HBr.out.alloc hwB _).trans hB3)
      rw [← hPb]
      clear hH3 hB3 hk3 hpb hPb q0 q1 b1
      go_wp2_with fail
      go_loopg [7, 9, 10, 11, 32] m (fun g2 v7 v9 v10 v11 v32 wr => ∃ j : Nat, v32 = .int .i64 j ∧ j ≤ m ∧ v7 = .int .u8 (if j = 0 then 61 else 44) ∧ Aside0 (m ≤ j + g2) ∧ Aside0 (∃ acc2, Bld.Has B B acc2 wr ∧ acc2 ++ valsT (p.f1.drop j) (if j = 0 then 61 else 44) = acc ++ [59] ++ p.f0.data.toList ++ valsT p.f1 61) ∧ Aside0 (Below B w1 wr))
      case atStart => exact ⟨0, rfl, by omega, rfl, ⟨by omega⟩, ⟨_, HH3.out, by rw [List.drop_zero]; rfl⟩, HB3⟩
      case round =>
        obtain ⟨j, rfl, hj, rfl, HJ, HH4, HB4⟩ := hrel
        obtain ⟨acc2, hH4, hacc2⟩ := HH4.out
        have HHj := Aside0.mk hH4
        have HAj := Aside0.mk hacc2
        clear hH4 hacc2 HH3 HB3
        obtain ⟨by', hby⟩ : ∃ by' : UInt8, ((by'.toNat : Nat) : Int) = (if j = 0 then 61 else 44) ∧ (if j = 0 then (61 : UInt8) else 44) = by' := ⟨if j = 0 then 61 else 44, by split <;> rfl, rfl⟩
        have HBY := Aside0.mk hby
        rw [← hby.1]
        clear hby
        by_cases hlt2 : j < m
        · cases gk with
          | zero => exfalso; have := HJ.out; omega
          | succ g2 =>
          have hjl : j < p.f1.length := by have := HM.out; omega
          have hb14 : Below w1.heap.size w1 wr := by have h := HB4.out; rw [HBd.out] at h; exact h
          obtain ⟨b5, o5, rfl, hcs⟩ := strs_row (Kd.C_below HCV.out hb14) (by intro e; rw [e] at hjl; simp at hjl)
          have hc5 := hcs j hjl
          have hvt := valsT_at p.f1 (if j = 0 then 61 else 44) j hjl
          obtain ⟨x, hx⟩ : ∃ x, x = p.f1[j] := ⟨_, rfl⟩
          have hxd : p.f1.getD j ByteArray.empty = x := by rw [List.getD_eq_getElem?_getD, List.getElem?_eq_getElem hjl, hx]; rfl
          rw [hxd] at hc5
          rw [← hx] at hvt
          have HVT := Aside0.mk hvt
          have hcx := HCL.out x (by rw [hx]; exact List.getElem_mem hjl)
          have HSj : Aside0 (acc2.length + (1 + (parL x.data.toList).length) ≤ 1000000000) := ⟨by
            have e := congrArg List.length HAj.out
            rw [HVT.out] at e
            simp only [List.length_append, List.length_cons, List.length_nil] at e
            have e2 : p.f0.data.toList.length = p.f0.size := by simp
            have := HSZ.out
            omega⟩
          have HPF : Aside0 (escape_Param.f k x = some (parW x, 0)) := ⟨by
            unfold escape_Param.f
            rw [hcx, Option.bind_some, if_pos rfl, if_pos]
            have h1 := parL_len x.data.toList
            have e : x.data.toList.length = x.size := by simp
            have := HSj.out
            omega⟩
          have hwB2 : B ≤ wr.heap.size := by have := HB4.out.size; have := HBd.out; omega
          have hGw : GG wr := hG.below (HB.out.trans (hb14.mono HB.out.size))
          clear hx hxd hvt hcx hcs hb14
          go_wp2_with fail
          go_at_call 20
          refine (escape_Param.calls k x (parW x) 0 _ hGw HPF.out).mono ?_
          rintro e w5 ⟨rfl, hB5⟩
          have HH5 := Aside0.mk (HHj.out.below hB5)
          have HB5 := Aside0.mk (HB4.out.trans (hB5.mono hwB2))
          have hwB5 : B ≤ w5.heap.size := by have := hB5.size; omega
          clear hB5 hGw
          go_wp2_with fail
          go_at_call 21
          refine (Bld.wb B B acc2 _ by' rfl _ HH5.out (by have := HSj.out; omega) hwB5).mono ?_
          rintro e w6 ⟨rfl, hH6, hB6, _⟩
          have HH6 := Aside0.mk hH6
          have HB6 := Aside0.mk (HB5.out.trans hB6)
          have hwB6 : B ≤ w6.heap.size := by have := hB6.size; omega
          clear hH6 hB6
          go_wp2_with fail
          go_at_call 19
          refine (Bld.ws B B (acc2 ++ [by']) (parW x) _ HH6.out (by have := HSj.out; have e : (parW x).size = (parL x.data.toList).length := by simp [parW, ByteArray.size]
                                                                    rw [List.length_append, List.length_singleton]; omega) hwB6).mono ?_
          rintro e w7 ⟨rfl, hH7, hB7, _⟩
          have HH7 := Aside0.mk hH7
          have HB7 := Aside0.mk (HB6.out.trans hB7)
          clear hH7 hB7
          go_wp2_with fail
          go_roundg g2
          case measure => have := HJ.out; omega
          case rel =>
            refine ⟨j + 1, by first | rfl | (go_num; done), by omega, by rw [if_neg (by omega)], ⟨by have := HJ.out; omega⟩, ⟨_, HH7.out, ?_⟩, HB7⟩
            rw [← HAj.out, HVT.out, HBY.out.2, if_neg (by omega)]
            simp [parW]
        · have hjm : j = m := by omega
          have HACC : Aside0 (acc2 ++ parsT (l.drop (i + 1)) = nm.data.toList ++ parsT l) := ⟨by
            have e := HAj.out
            rw [List.drop_eq_nil_of_le (by have := HM.out; omega)] at e
            rw [← HAC.out, HPT.out]
            simp only [valsT, List.append_nil] at e
            rw [e]
            simp⟩
          clear hjm
          go_wp2_with fail
          go_roundg g
          case measure => have := HI.out; omega
          case rel => exact ⟨i + 1, by first | rfl | (go_num; done), by omega, ⟨by have := HI.out; omega⟩, ⟨acc2, HHj.out, HACC.out⟩, HB4⟩
    · have hin : i = n := by omega
      have HACC : Aside0 (acc = nm.data.toList ++ parsT l) := ⟨by
        have e := HAC.out
        rw [List.drop_eq_nil_of_le (by have := HN.out; omega)] at e
        simpa [parsT] using e⟩
      have r2 := (HBr.out.cell (p := ⟨X, 2, none⟩) hXB).trans (HXC.out)
      have b1 : (9223372036854775807 < 1 + v.size) = False := eq_false (by have := HPL.out; omega)
      have hwB : B ≤ wr.heap.size := by have := HBr.out.size; have := HBd.out; omega
      clear hin y1 y2
      go_wp2_with fail
      go_at_call 19
      refine (Bld.ws B B acc _ _ HHr.out (by rw [HACC.out, ByteArray.size_append, List.length_append]; have := HPL.out; show _ + (1 + v.size) ≤ _; omega) hwB).mono ?_
      rintro e w3 ⟨rfl, hH3, hB3, _⟩
      have HH3 : Aside0 (Bld.Has B B (lineT nm l v) w3) := ⟨by
        have e : (⟨#[58]⟩ ++ v : ByteArray).data.toList = 58 :: v.data.toList := by simp
        rw [e, HACC.out] at hH3; exact hH3⟩
      have HB3 := Aside0.mk (HBr.out.trans hB3)
      have hwB3 : B ≤ w3.heap.size := by have := hB3.size; omega
      have hfin : ∀ w', Below B w1 w' → Below w.heap.size w w' := fun w' h => HB.out.trans (h.mono (by have := HBd.out; have := HB.out.size; omega))
      clear hH3 hB3 r2 b1
      obtain ⟨L, hL⟩ : ∃ L : Nat, L = (lineT nm l v).length := ⟨_, rfl⟩
      have HL := Aside0.mk hL
      clear hL
      by_cases hl2 : (2000 : Int) < (L : Int)
      · have hR : lineR nm l v = (⟨#[]⟩, 4) := by unfold lineR; rw [if_pos (by have := HL.out; omega)]
        have d1 : decide ((2000 : Int) < (L : Int)) = true := decide_eq_true hl2
        have HRR := Aside0.mk hR
        clear hR
        go_wp2_with fail
        go_at_call 22
        refine (Bld.len _ _ _ _ HH3.out).mono ?_
        rintro e w4 ⟨rfl, hw4⟩
        rw [hw4, ← HL.out]
        clear hw4
        go_wp2_with fail
        go_ret2
        exact ⟨by rw [HRR.out]; rfl, hfin _ HB3.out⟩
      · have hR : lineR nm l v = (⟨(lineT nm l v).toArray⟩, 0) := by unfold lineR; rw [if_neg (by have := HL.out; omega)]
        have d1 : decide ((2000 : Int) < (L : Int)) = false := decide_eq_false hl2
        have HRR := Aside0.mk hR
        clear hR
        go_wp2_with fail
        go_at_call 22
        refine (Bld.len _ _ _ _ HH3.out).mono ?_
        rintro e w4 ⟨rfl, hw4⟩
        rw [hw4, ← HL.out]
        clear hw4
        go_wp2_with fail
        go_at_call 23
        refine (Bld.str _ _ _ _ HH3.out hwB3).mono ?_
        rintro e w5 ⟨rfl, _, hB5, _⟩
        have HB5 := Aside0.mk (HB3.out.trans hB5)
        clear hB5
        go_wp2_with fail
        go_ret2
        exact ⟨by rw [HRR.out]; rfl, hfin _ HB5.out⟩
theorem line_Print.calls (k : Nat) (a0_0 : ByteArray) (A0_1 : Option Addr) (c0_1 : Nat) (l0_1 : List S53) (a0_2 : ByteArray) (r1 : ByteArray) (r2 : Int) (w : World) (hG : GG w) (hr0_1 : Kd.C k53 w A0_1 l0_1.length l0_1) (hc0_1 : l0_1.length ≤ c0_1) (h : line_Print.f k a0_0 l0_1 a0_2 = some (r1, r2)) :
    Calls Tryz.prog 8 #[.agg #[.string a0_0, .slice A0_1 l0_1.length c0_1, .string a0_2]] w fun e w' => e = .returned (.tuple #[.string r1, .int .i64 r2]) ∧ Below w.heap.size w w' := by
  unfold line_Print.f at h
  obtain ⟨ok, hok, h⟩ := Option.bind_eq_some_iff.1 h
  cases ok with
  | false =>
    rw [if_neg (by decide)] at h
    have hp := print_bad k a0_0 A0_1 c0_1 l0_1 a0_2 w hG hr0_1 hc0_1 hok
    obtain ⟨rfl, rfl⟩ := Prod.mk.inj (Option.some.inj h)
    exact hp
  | true =>
    rw [if_pos rfl] at h
    by_cases hg : cleanAll k l0_1 = true ∧ (lineT a0_0 l0_1 a0_2).length ≤ 1000000000
    · rw [if_pos hg] at h
      have hp := print_ok k a0_0 A0_1 c0_1 l0_1 a0_2 w hG hr0_1 hc0_1 hok hg.1 hg.2
      rw [Option.some.inj h] at hp
      exact hp
    · rw [if_neg hg] at h; exact absurd h (by simp)
end Go.Proofs.YtknmbalhbecdhaaGreatDoor.Print
end
