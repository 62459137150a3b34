/- Texts of the proof of TreeAgain, put together: Print11 ParSpec Repl ReplL ReplN ReplB ReplO Param LPrint Print12 FoldOne FoldFold Print13 TEq TGBase TGBegins TGEnds. -/
import Derived.Test.YtdojmdbaiddkgaaGreatDoorProg
import Derived.Below
import Derived.Deep.Draws
import Derived.Deep.AppendLies
import Derived.Maps.AppendAt
import Derived.OwnWalk
import Derived.Laws.BytesArg
import Derived.Laws.MakeOwn
import Derived.Laws.OwnMore
import Derived.Deep.OwnRows
import Derived.Tactics
import Derived.Lib.ConvBytes
import Derived.Laws.Slices
import Derived.WalkKit
import Derived.KernelRfl
import Derived.RowKit3
import Derived.Deep.LoopGhost
import Derived.Deep.QuietTactic
import Derived.BigQuiet
import Derived.WideLaws
import Derived.Deep.DeepCutAuto
import Derived.Deep.CutBlock
import Derived.Deep.RegionHeld3
import Derived.Laws.Rows
import Derived.Lib.AppendStr
import Derived.ArgAppend
import Derived.Laws.IdiomCopy
import Derived.OrdersHeld
import Derived.Laws.BitsLemmas
import Derived.RowKit
import Derived.Test.YtdojmdbaiddkgaaGreatDoorQTreeAgainWMore
import Derived.Shelf.Unicode.ValidAny
import Derived.Shelf.Strings.Builder1
import Derived.Shelf.Strings.Builder2
import Derived.Shelf.Small.Utf8
import Derived.Shelf.Small.Strs
import Derived.Shelf.Strings.BuilderF
import Derived.Shelf.Strings.BuilderK
import Derived.Shelf.Strings.Builder2Cap
import Derived.Shelf.Strings.Search1
import Derived.Shelf.Strings.Search2
import Derived.Shelf.Strings.Search3
import Derived.Shelf.Strings.Count
import Derived.Shelf.LaysM
import Derived.Shelf.Strings.Shaped
import Derived.Shelf.Strings.Prefix
import Derived.Shelf.Strings.Runes
import Derived.Shelf.Strings.IndexAny
import Derived.Shelf.Strings.AsciiSet
import Derived.Shelf.Strings.IndexAnyAll
import Derived.Shelf.Unicode.DecodeSlow
import Derived.Shelf.Unicode.DecodeAny
import Derived.Shelf.Strings.BuilderCap
import Derived.Shelf.Slices.Equal
import Derived.Shelf.Slices.Empties2
import Derived.WalkSpells
import Derived.Laws.Runes
import Derived.Laws.RangeAny
import Derived.Laws.RangeString
import Derived.Lib.IndexAny
import Derived.Lib.SpaceUEq
import Derived.Lib.RuneCount
import Derived.Lib.QuoteLoop
import Derived.Lib.Hide
import Derived.Lib.OthersKept
import Derived.Lib.DecodeN
import Derived.IntWalk
import Derived.Test.YtdojmdbaiddkgaaGreatDoorQTreeAgainWWords
import Derived.Test.YtdojmdbaiddkgaaGreatDoorQTreeAgainWLast
import Derived.Test.YtdojmdbaiddkgaaGreatDoorQTreeAgainWTab
import Derived.Test.YtdojmdbaiddkgaaGreatDoorQTreeAgainWQPut
import Derived.Test.YtdojmdbaiddkgaaGreatDoorQTreeAgainWApart
import Derived.Test.YtdojmdbaiddkgaaGreatDoorQTreeAgainWArr
import Derived.Test.YtdojmdbaiddkgaaGreatDoorQTreeAgainWZeros
import Derived.Test.YtdojmdbaiddkgaaGreatDoorQTreeAgainWFoot
import Derived.Test.YtdojmdbaiddkgaaGreatDoorQTreeAgainWKept
import Derived.Test.YtdojmdbaiddkgaaGreatDoorQTreeAgainWShare
import Derived.Test.YtdojmdbaiddkgaaGreatDoorQTreeAgainWN
import Derived.Test.YtdojmdbaiddkgaaGreatDoorQTreeAgainWRepsOne
import Derived.Test.YtdojmdbaiddkgaaGreatDoorQTreeAgainWInv
import Derived.Test.YtdojmdbaiddkgaaGreatDoorQTreeAgainWGuard
import Derived.Test.YtdojmdbaiddkgaaGreatDoorQTreeAgainWNEv
import Derived.Laws.NewBlocks
import Derived.Outline
import Derived.Laws.CopyRow
import Derived.Laws.CopyOwn
import Derived.Deep.RegionWith
import Derived.Deep.WholeRow
import Derived.Tactics2
import Derived.Defers
import Derived.Laws.Pointers
import Derived.Laws.LoneSync
import Derived.RegionTactic
import Derived.RegionCalls
import Derived.Lib.TrimUEq
import Derived.Lib.MapLaws
import Derived.Lib.SmallJoins
import Derived.Shelf.Unicode.DecodeLastEight
import Derived.Test.YtdojmdbaiddkgaaGreatDoorQTreeAgainA
section
namespace Go.Proofs.YtdojmdbaiddkgaaGreatDoor.Print
open Go.RowKit Go.Proofs.YtdojmdbaiddkgaaGreatDoorW.PrintWords Go.Proofs.YtdojmdbaiddkgaaGreatDoorW.PrintLast Go.Proofs.YtdojmdbaiddkgaaGreatDoorW.PrintMore
set_option linter.unusedVariables false
set_option linter.unusedSimpArgs false
mutual
def tree_formed.j0 : Nat → Int → Bool → ByteArray → List (S49) → List (S31) → Option (Bool)
 | 0, _, _, _, _, _ => none
 | k + 1, x1, x16, x248000, x248001, x248002 => if x16 = true then (some false) else (tree_formed.l0 k x1 x248001 (x248001.length : Int) 0 x248000 x248001 x248002)
def tree_formed.l0 : Nat → Int → List (S49) → Int → Int → ByteArray → List (S49) → List (S31) → Option (Bool)
 | 0, _, _, _, _, _, _, _ => none
 | k + 1, x1, x18, x19, x20, x248000, x248001, x248002 => if x20 < x19 then (if 0 ≤ x20 then (if x20 < (x18.length : Int) then ((line_Formed.f k ((rd_T49 x18 x20).f0) ((rd_T49 x18 x20).f1) ((rd_T49 x18 x20).f2)).bind fun t251 => (if t251 = true then ((tree_bound.f ((rd_T49 x18 x20).f0)).bind fun t252 => (if t252 = true then (some false) else (tree_formed.l0 k x1 x18 x19 (wrap64 (x20 + 1)) x248000 x248001 x248002))) else (some false))) else (none)) else (none)) else (tree_formed.l1 k x1 x248002 (x248002.length : Int) 0)
def tree_formed.l1 : Nat → Int → List (S31) → Int → Int → Option (Bool)
 | 0, _, _, _, _ => none
 | k + 1, x1, x34, x35, x36 => if x36 < x35 then (if 0 ≤ x36 then (if x36 < (x34.length : Int) then ((tree_formed.f k ((rd_T31 x34 x36).f0) ((rd_T31 x34 x36).f1) ((rd_T31 x34 x36).f2) (wrap64 (x1 - 1))).bind fun t255 => (if t255 = true then (tree_formed.l1 k x1 x34 x35 (wrap64 (x36 + 1))) else (some false))) else (none)) else (none)) else (some true)
def tree_formed.f : Nat → ByteArray → List (S49) → List (S31) → Int → Option (Bool)
 | 0, _, _, _, _ => none
 | k + 1, a0_0, l0_1, l0_2, a1 => if a1 = 0 then (tree_formed.j0 k a1 true a0_0 l0_1 l0_2) else ((line_Name.f k a0_0).bind fun t248 => (tree_formed.j0 k a1 (!t248) a0_0 l0_1 l0_2))
end
set_option maxHeartbeats 8000000 in
set_option maxRecDepth 100000 in
theorem tree_formed.calls (k : Nat) : ∀ (a0_0 : ByteArray) (A0_1 : Option Addr) (c0_1 : Nat) (l0_1 : List (S49)) (A0_2 : Option Addr) (c0_2 : Nat) (l0_2 : List (S31)) (a1 : Int) (r : Bool) (w : World) (hG : GG w) (hr0_1 : Kd.C k49 w A0_1 l0_1.length l0_1) (hc0_1 : l0_1.length ≤ c0_1) (hr0_2 : Kd.C k31 w A0_2 l0_2.length l0_2) (hc0_2 : l0_2.length ≤ c0_2) (h : tree_formed.f k a0_0 l0_1 l0_2 a1 = some r),
  Calls Tryz.prog 25 #[.agg #[.string a0_0, .slice A0_1 l0_1.length c0_1, .slice A0_2 l0_2.length c0_2], .int .i64 a1] w fun e w' => e = .returned (.bool r) ∧ Below w.heap.size w w' := by
 induction k using Nat.strongRecOn with
 | _ k ih =>
 intro a0_0 A0_1 c0_1 l0_1 A0_2 c0_2 l0_2 a1 r w hG hr0_1 hc0_1 hr0_2 hc0_2 h
 cases k with
 | zero => exact absurd h (by simp [tree_formed.f])
 | succ k =>
 simp only [tree_formed.f] at h; have hu31 := Tryz.underlying31; have hu49 := Tryz.underlying49; have HR0_1 := Aside0.mk hr0_1; have HC0_1 := Aside0.mk hc0_1; clear hr0_1 hc0_1; have HR0_2 := Aside0.mk hr0_2; have HC0_2 := Aside0.mk hc0_2; clear hr0_2 hc0_2; have HB := Aside0.mk (Below.refl w.heap.size w); have H : (if a1 = 0 then (tree_formed.j0 k a1 true a0_0 l0_1 l0_2) else ((line_Name.f k a0_0).bind fun t248 => (tree_formed.j0 k a1 (!t248) a0_0 l0_1 l0_2))) = some r := h; clear h; have HC3 := Aside0.mk H; clear H
 go_enter Tryz.func25, Tryz.ntmps25
 go_upto_region 1 with (first | ((with_reducible refine gate_dst (N := 2) rfl ?_); refine zbox (N := 2) #[.string a0_0, .slice A0_1 l0_1.length c0_1, .slice A0_2 l0_2.length c0_2] 31 (fun gb247 hg w4 hbox hb => ?_); replace BK247 := Aside0.mk hbox; replace GE247 := zg w hg; replace HB := zw hb; clear hb hbox hg))
 (try simp only [Act.put, List.setIfInBounds_toArray, List.set_cons_zero, List.set_cons_succ])
 go_cut [16] (fun v16 wc => ∃ (kq : Nat) (x16_2 : Bool), v16 = .bool x16_2 ∧ Aside0 (tree_formed.j0 kq a1 x16_2 a0_0 l0_1 l0_2 = some r) ∧ Aside0 (kq ≤ k) ∧ Aside0 (wc.heap[gb247]? = some (.cells #[.string a0_0, (.slice A0_1 l0_1.length c0_1), (.slice A0_2 l0_2.length c0_2)] 31 (0, 0))) ∧ Aside0 (Below w.heap.size w wc))
 case first =>
  have H := HC3.out; clear HC3; replace H := zIe H; rcases H with ⟨-, c5b0, c5b1, H⟩ | ⟨c5, c5b0, c5b1, H⟩
  ·(first | rw [c5b0] | (simp only [i64_w, i32_w]; rw [c5b0]) | skip)
   have H' := Aside0.mk H; clear H; go_wp2
   go_meet
   case rel => exact ⟨_, (true), zS, H', ⟨by first | omega | exact Nat.le_refl _⟩, ⟨blk_below BK247.out zX⟩, ⟨zB⟩⟩
  ·(first | rw [c5b0] | (simp only [i64_w, i32_w]; rw [c5b0]) | skip)
   replace H := zO H; obtain ⟨t248, A6, H⟩ := H; have H' := Aside0.mk H; clear H; obtain ⟨hcz7_0, hcz7_1, hcz7_2, hfz7_0, hfz7_1, hfz7_2⟩ := zk3 BK247
   go_wp2_with (first | (go_at_call 44; (with_reducible refine (line_Name.calls k a0_0 t248 _ zG A6.out).mono ?_); rintro e w' ⟨rfl, ⟨nd, rfl⟩⟩))
   go_meet
   case rel => exact ⟨_, (!t248), zS, H', ⟨by first | omega | exact Nat.le_refl _⟩, ⟨blk_below BK247.out zX⟩, ⟨zB⟩⟩
 case rest =>
  clear HC3; obtain ⟨kq, x16_2, rfl, HA, HJ2, BK247, HB⟩ := hcut
  cases kq with
  | zero => exact absurd HA.out (by simp [tree_formed.j0])
  | succ kj2 =>
   have H := HA.out; clear HA; simp only [tree_formed.j0] at H; replace H := zIb H; rcases H with ⟨rfl, H⟩ | ⟨rfl, H⟩
   ·obtain rfl := Option.some.inj H; go_wp2; go_ret; exact ⟨zE, zB⟩
   ·have H' := Aside0.mk H; clear H; obtain ⟨hcz9_0, hcz9_1, hcz9_2, hfz9_0, hfz9_1, hfz9_2⟩ := zk3 BK247; go_wp2
    go_loopg [20] kj2 (fun kq v20 w' => ∃ (x20_2 : Int), v20 = .int .i64 x20_2 ∧ Aside0 (tree_formed.l0 kq a1 l0_1 (l0_1.length : Int) x20_2 a0_0 l0_1 l0_2 = some r) ∧ Aside0 (kq ≤ kj2) ∧ Aside0 (w'.heap[gb247]? = some (.cells #[.string a0_0, (.slice A0_1 l0_1.length c0_1), (.slice A0_2 l0_2.length c0_2)] 31 (0, 0))) ∧ Aside0 (Below w.heap.size w w'))
    case atStart => exact ⟨(0), zS, H', ⟨Nat.le_refl _⟩, ⟨blk_below BK247.out zX⟩, ⟨zB⟩⟩
    case round =>
     clear H'; clear hcz9_0 hcz9_1 hcz9_2 hfz9_0 hfz9_1 hfz9_2; obtain ⟨x20_2, rfl, HA, HK2, BK247, HB⟩ := hrel
     cases gk with
     | zero => exact absurd HA.out (by simp [tree_formed.l0])
     | succ k2 =>
      have H := HA.out; clear HA; simp only [tree_formed.l0] at H; replace H := zId H; rcases H with ⟨-, c10b0, H⟩ | ⟨-, c10b0, H⟩
      ·replace H := zJJ H; obtain ⟨c11b0, c12b0, H⟩ := H; replace H := zO H; obtain ⟨t251, A13, H⟩ := H; replace H := zIb H; rcases H with ⟨rfl, H⟩ | ⟨rfl, H⟩
       ·replace H := zO H; obtain ⟨t252, A15, H⟩ := H; replace H := zIb H; rcases H with ⟨rfl, H⟩ | ⟨rfl, H⟩
        ·obtain rfl := Option.some.inj H; have p249 := zQ (0 ≤ (x20_2 : Int)); have q249 := zQ (x20_2 < (l0_1.length : Int)); obtain ⟨ad249, A249_1, c249_1, e249, hx249_0, hx249_1, hx249_2, hl249_1, hi249_1⟩ := at_T49 HR0_1.out x20_2 p249 q249
         cases e249
         replace hx249_0 := zx HB hx249_0; replace hx249_1 := zx HB hx249_1; replace hx249_2 := zx HB hx249_2; have HR249_1 := Aside0.mk hi249_1; have HC249_1 := Aside0.mk hl249_1; clear hi249_1 hl249_1; replace p249 := eq_true p249; replace q249 := eq_true q249
         go_wp2_with (first | ((with_reducible refine gate_dst (N := 6) rfl ?_); refine zbox (N := 6) #[.string (⟨#[]⟩ : ByteArray), .slice none 0 0, .string (⟨#[]⟩ : ByteArray)] 49 (fun gb250 hg w17 hbox hb => ?_); replace BK250 := Aside0.mk hbox; replace GE250 := zg w hg; replace HB := zw hb; replace NB247_250 := zn BK247 hg; replace NB250_247 := zm BK247 hg; replace BK247 := zb BK247 hb; clear hb hbox hg; have hnb18 := NB250_247.out; have hnc18 := NB247_250.out; obtain ⟨hcz19_0, hcz19_1, hcz19_2, hfz19_0, hfz19_1, hfz19_2⟩ := zk3 BK250) | ((with_reducible refine gate_callee (f := 45) rfl ?_); refine goesL_ (some 25) rfl rfl Tryz.func45 (by kernel_rfl) rfl #[.agg #[.string ((rd_T49 l0_1 x20_2).f0), .slice A249_1 ((rd_T49 l0_1 x20_2).f1).length c249_1, .string ((rd_T49 l0_1 x20_2).f2)]] rfl zA ?_; (with_reducible refine (line_Formed.calls k2 ((rd_T49 l0_1 x20_2).f0) _ _ ((rd_T49 l0_1 x20_2).f1) ((rd_T49 l0_1 x20_2).f2) true _ zG ?side1 ?side2 A13.out).mono ?_); (case side1 => exact Kd.C_below HR249_1.out zB); (case side2 => exact HC249_1.out); rintro e w20 ⟨rfl, hb⟩; refine ⟨_, rfl, ?_⟩; replace BK247 := Aside0.mk (blk_below (g := gb247) (o := .cells #[.string a0_0, .slice (some ad249) l0_1.length c0_1, .slice A0_2 l0_2.length c0_2] 31 (0, 0)) (by (with_reducible repeat (first | refine blk_drewN ?_ _ | refine blk_drew ?_ | refine blk_alloc ?_ _)); refine blk_far ?_ NB247_250.out _; (with_reducible repeat (first | refine blk_drewN ?_ _ | refine blk_drew ?_ | refine blk_alloc ?_ _)); refine blk_far ?_ NB247_250.out _; (with_reducible repeat (first | refine blk_drewN ?_ _ | refine blk_drew ?_ | refine blk_alloc ?_ _)); refine blk_far ?_ NB247_250.out _; (with_reducible repeat (first | refine blk_drewN ?_ _ | refine blk_drew ?_ | refine blk_alloc ?_ _)); exact BK247.out) hb); replace BK250 := Aside0.mk (blk_below (g := gb250) (o := .cells #[.string ((rd_T49 l0_1 x20_2).f0), .slice A249_1 ((rd_T49 l0_1 x20_2).f1).length c249_1, .string ((rd_T49 l0_1 x20_2).f2)] 49 (0, 0)) (by (with_reducible repeat (first | refine blk_drewN ?_ _ | refine blk_drew ?_ | refine blk_alloc ?_ _)); refine blk_put (cs := #[.string ((rd_T49 l0_1 x20_2).f0), .slice A249_1 ((rd_T49 l0_1 x20_2).f1).length c249_1, .string (⟨#[]⟩ : ByteArray)]) ?_ 2 _ rfl; (with_reducible repeat (first | refine blk_drewN ?_ _ | refine blk_drew ?_ | refine blk_alloc ?_ _)); refine blk_put (cs := #[.string ((rd_T49 l0_1 x20_2).f0), .slice none 0 0, .string (⟨#[]⟩ : ByteArray)]) ?_ 1 _ rfl; (with_reducible repeat (first | refine blk_drewN ?_ _ | refine blk_drew ?_ | refine blk_alloc ?_ _)); refine blk_put (cs := #[.string (⟨#[]⟩ : ByteArray), .slice none 0 0, .string (⟨#[]⟩ : ByteArray)]) ?_ 0 _ rfl; (with_reducible repeat (first | refine blk_drewN ?_ _ | refine blk_drew ?_ | refine blk_alloc ?_ _)); exact BK250.out) hb); replace HB := zw hb; clear hb; have hcz21_0 : w20.cell? ⟨gb250, 0, none⟩ = some (.string ((rd_T49 l0_1 x20_2).f0)) := (blk_cell BK250.out 0).trans rfl; have hcz21_1 : w20.cell? ⟨gb250, 1, none⟩ = some (.slice A249_1 ((rd_T49 l0_1 x20_2).f1).length c249_1) := (blk_cell BK250.out 1).trans rfl; have hcz21_2 : w20.cell? ⟨gb250, 2, none⟩ = some (.string ((rd_T49 l0_1 x20_2).f2)) := (blk_cell BK250.out 2).trans rfl; have hfz21_0 := zf BK250 0; have hfz21_1 := zf BK250 1; have hfz21_2 := zf BK250 2) | (go_at_call 46; (with_reducible refine (tree_bound.calls ((rd_T49 l0_1 x20_2).f0) true _ zG A15.out).mono ?_); rintro e w' ⟨rfl, ⟨nd, rfl⟩⟩))
         go_ret; exact ⟨zE, zB⟩
        ·have H' := Aside0.mk H; clear H; have p249 := zQ (0 ≤ (x20_2 : Int)); have q249 := zQ (x20_2 < (l0_1.length : Int)); obtain ⟨ad249, A249_1, c249_1, e249, hx249_0, hx249_1, hx249_2, hl249_1, hi249_1⟩ := at_T49 HR0_1.out x20_2 p249 q249
         cases e249
         replace hx249_0 := zx HB hx249_0; replace hx249_1 := zx HB hx249_1; replace hx249_2 := zx HB hx249_2; have HR249_1 := Aside0.mk hi249_1; have HC249_1 := Aside0.mk hl249_1; clear hi249_1 hl249_1; replace p249 := eq_true p249; replace q249 := eq_true q249
         go_wp2_with (first | ((with_reducible refine gate_dst (N := 6) rfl ?_); refine zbox (N := 6) #[.string (⟨#[]⟩ : ByteArray), .slice none 0 0, .string (⟨#[]⟩ : ByteArray)] 49 (fun gb250 hg w22 hbox hb => ?_); replace BK250 := Aside0.mk hbox; replace GE250 := zg w hg; replace HB := zw hb; replace NB247_250 := zn BK247 hg; replace NB250_247 := zm BK247 hg; replace BK247 := zb BK247 hb; clear hb hbox hg; have hnb23 := NB250_247.out; have hnc23 := NB247_250.out; obtain ⟨hcz24_0, hcz24_1, hcz24_2, hfz24_0, hfz24_1, hfz24_2⟩ := zk3 BK250) | ((with_reducible refine gate_callee (f := 45) rfl ?_); refine goesL_ (some 25) rfl rfl Tryz.func45 (by kernel_rfl) rfl #[.agg #[.string ((rd_T49 l0_1 x20_2).f0), .slice A249_1 ((rd_T49 l0_1 x20_2).f1).length c249_1, .string ((rd_T49 l0_1 x20_2).f2)]] rfl zA ?_; (with_reducible refine (line_Formed.calls k2 ((rd_T49 l0_1 x20_2).f0) _ _ ((rd_T49 l0_1 x20_2).f1) ((rd_T49 l0_1 x20_2).f2) true _ zG ?side1 ?side2 A13.out).mono ?_); (case side1 => exact Kd.C_below HR249_1.out zB); (case side2 => exact HC249_1.out); rintro e w25 ⟨rfl, hb⟩; refine ⟨_, rfl, ?_⟩; replace BK247 := Aside0.mk (blk_below (g := gb247) (o := .cells #[.string a0_0, .slice (some ad249) l0_1.length c0_1, .slice A0_2 l0_2.length c0_2] 31 (0, 0)) (by (with_reducible repeat (first | refine blk_drewN ?_ _ | refine blk_drew ?_ | refine blk_alloc ?_ _)); refine blk_far ?_ NB247_250.out _; (with_reducible repeat (first | refine blk_drewN ?_ _ | refine blk_drew ?_ | refine blk_alloc ?_ _)); refine blk_far ?_ NB247_250.out _; (with_reducible repeat (first | refine blk_drewN ?_ _ | refine blk_drew ?_ | refine blk_alloc ?_ _)); refine blk_far ?_ NB247_250.out _; (with_reducible repeat (first | refine blk_drewN ?_ _ | refine blk_drew ?_ | refine blk_alloc ?_ _)); exact BK247.out) hb); replace BK250 := Aside0.mk (blk_below (g := gb250) (o := .cells #[.string ((rd_T49 l0_1 x20_2).f0), .slice A249_1 ((rd_T49 l0_1 x20_2).f1).length c249_1, .string ((rd_T49 l0_1 x20_2).f2)] 49 (0, 0)) (by (with_reducible repeat (first | refine blk_drewN ?_ _ | refine blk_drew ?_ | refine blk_alloc ?_ _)); refine blk_put (cs := #[.string ((rd_T49 l0_1 x20_2).f0), .slice A249_1 ((rd_T49 l0_1 x20_2).f1).length c249_1, .string (⟨#[]⟩ : ByteArray)]) ?_ 2 _ rfl; (with_reducible repeat (first | refine blk_drewN ?_ _ | refine blk_drew ?_ | refine blk_alloc ?_ _)); refine blk_put (cs := #[.string ((rd_T49 l0_1 x20_2).f0), .slice none 0 0, .string (⟨#[]⟩ : ByteArray)]) ?_ 1 _ rfl; (with_reducible repeat (first | refine blk_drewN ?_ _ | refine blk_drew ?_ | refine blk_alloc ?_ _)); refine blk_put (cs := #[.string (⟨#[]⟩ : ByteArray), .slice none 0 0, .string (⟨#[]⟩ : ByteArray)]) ?_ 0 _ rfl; (with_reducible repeat (first | refine blk_drewN ?_ _ | refine blk_drew ?_ | refine blk_alloc ?_ _)); exact BK250.out) hb); replace HB := zw hb; clear hb; have hcz26_0 : w25.cell? ⟨gb250, 0, none⟩ = some (.string ((rd_T49 l0_1 x20_2).f0)) := (blk_cell BK250.out 0).trans rfl; have hcz26_1 : w25.cell? ⟨gb250, 1, none⟩ = some (.slice A249_1 ((rd_T49 l0_1 x20_2).f1).length c249_1) := (blk_cell BK250.out 1).trans rfl; have hcz26_2 : w25.cell? ⟨gb250, 2, none⟩ = some (.string ((rd_T49 l0_1 x20_2).f2)) := (blk_cell BK250.out 2).trans rfl; have hfz26_0 := zf BK250 0; have hfz26_1 := zf BK250 1; have hfz26_2 := zf BK250 2) | (go_at_call 46; (with_reducible refine (tree_bound.calls ((rd_T49 l0_1 x20_2).f0) false _ zG A15.out).mono ?_); rintro e w' ⟨rfl, ⟨nd, rfl⟩⟩))
         go_roundg k2
         case measure => have := HJ2.out; have := HK2.out; omega
         case rel => exact ⟨(wrap64 (x20_2 + 1)), zS, H', ⟨by have := HJ2.out; have := HK2.out; omega⟩, ⟨blk_below BK247.out zX⟩, ⟨zB⟩⟩
       ·obtain rfl := Option.some.inj H; have p249 := zQ (0 ≤ (x20_2 : Int)); have q249 := zQ (x20_2 < (l0_1.length : Int)); obtain ⟨ad249, A249_1, c249_1, e249, hx249_0, hx249_1, hx249_2, hl249_1, hi249_1⟩ := at_T49 HR0_1.out x20_2 p249 q249
        cases e249
        replace hx249_0 := zx HB hx249_0; replace hx249_1 := zx HB hx249_1; replace hx249_2 := zx HB hx249_2; have HR249_1 := Aside0.mk hi249_1; have HC249_1 := Aside0.mk hl249_1; clear hi249_1 hl249_1; replace p249 := eq_true p249; replace q249 := eq_true q249
        go_wp2_with (first | ((with_reducible refine gate_dst (N := 6) rfl ?_); refine zbox (N := 6) #[.string (⟨#[]⟩ : ByteArray), .slice none 0 0, .string (⟨#[]⟩ : ByteArray)] 49 (fun gb250 hg w27 hbox hb => ?_); replace BK250 := Aside0.mk hbox; replace GE250 := zg w hg; replace HB := zw hb; replace NB247_250 := zn BK247 hg; replace NB250_247 := zm BK247 hg; replace BK247 := zb BK247 hb; clear hb hbox hg; have hnb28 := NB250_247.out; have hnc28 := NB247_250.out; obtain ⟨hcz29_0, hcz29_1, hcz29_2, hfz29_0, hfz29_1, hfz29_2⟩ := zk3 BK250) | ((with_reducible refine gate_callee (f := 45) rfl ?_); refine goesL_ (some 25) rfl rfl Tryz.func45 (by kernel_rfl) rfl #[.agg #[.string ((rd_T49 l0_1 x20_2).f0), .slice A249_1 ((rd_T49 l0_1 x20_2).f1).length c249_1, .string ((rd_T49 l0_1 x20_2).f2)]] rfl zA ?_; (with_reducible refine (line_Formed.calls k2 ((rd_T49 l0_1 x20_2).f0) _ _ ((rd_T49 l0_1 x20_2).f1) ((rd_T49 l0_1 x20_2).f2) false _ zG ?side1 ?side2 A13.out).mono ?_); (case side1 => exact Kd.C_below HR249_1.out zB); (case side2 => exact HC249_1.out); rintro e w30 ⟨rfl, hb⟩; refine ⟨_, rfl, ?_⟩; replace BK247 := Aside0.mk (blk_below (g := gb247) (o := .cells #[.string a0_0, .slice (some ad249) l0_1.length c0_1, .slice A0_2 l0_2.length c0_2] 31 (0, 0)) (by (with_reducible repeat (first | refine blk_drewN ?_ _ | refine blk_drew ?_ | refine blk_alloc ?_ _)); refine blk_far ?_ NB247_250.out _; (with_reducible repeat (first | refine blk_drewN ?_ _ | refine blk_drew ?_ | refine blk_alloc ?_ _)); refine blk_far ?_ NB247_250.out _; (with_reducible repeat (first | refine blk_drewN ?_ _ | refine blk_drew ?_ | refine blk_alloc ?_ _)); refine blk_far ?_ NB247_250.out _; (with_reducible repeat (first | refine blk_drewN ?_ _ | refine blk_drew ?_ | refine blk_alloc ?_ _)); exact BK247.out) hb); replace BK250 := Aside0.mk (blk_below (g := gb250) (o := .cells #[.string ((rd_T49 l0_1 x20_2).f0), .slice A249_1 ((rd_T49 l0_1 x20_2).f1).length c249_1, .string ((rd_T49 l0_1 x20_2).f2)] 49 (0, 0)) (by (with_reducible repeat (first | refine blk_drewN ?_ _ | refine blk_drew ?_ | refine blk_alloc ?_ _)); refine blk_put (cs := #[.string ((rd_T49 l0_1 x20_2).f0), .slice A249_1 ((rd_T49 l0_1 x20_2).f1).length c249_1, .string (⟨#[]⟩ : ByteArray)]) ?_ 2 _ rfl; (with_reducible repeat (first | refine blk_drewN ?_ _ | refine blk_drew ?_ | refine blk_alloc ?_ _)); refine blk_put (cs := #[.string ((rd_T49 l0_1 x20_2).f0), .slice none 0 0, .string (⟨#[]⟩ : ByteArray)]) ?_ 1 _ rfl; (with_reducible repeat (first | refine blk_drewN ?_ _ | refine blk_drew ?_ | refine blk_alloc ?_ _)); refine blk_put (cs := #[.string (⟨#[]⟩ : ByteArray), .slice none 0 0, .string (⟨#[]⟩ : ByteArray)]) ?_ 0 _ rfl; (with_reducible repeat (first | refine blk_drewN ?_ _ | refine blk_drew ?_ | refine blk_alloc ?_ _)); exact BK250.out) hb); replace HB := zw hb; clear hb))
        go_ret; exact ⟨zE, zB⟩
      ·have H' := Aside0.mk H; clear H; obtain ⟨hcz31_0, hcz31_1, hcz31_2, hfz31_0, hfz31_1, hfz31_2⟩ := zk3 BK247; go_wp2
       go_loopg [36] k2 (fun kq v36 w' => ∃ (x36_3 : Int), v36 = .int .i64 x36_3 ∧ Aside0 (tree_formed.l1 kq a1 l0_2 (l0_2.length : Int) x36_3 = some r) ∧ Aside0 (kq ≤ k2) ∧ Aside0 (w'.heap[gb247]? = some (.cells #[.string a0_0, (.slice A0_1 l0_1.length c0_1), (.slice A0_2 l0_2.length c0_2)] 31 (0, 0))) ∧ Aside0 (Below w.heap.size w w'))
       case atStart => exact ⟨(0), zS, H', ⟨Nat.le_refl _⟩, ⟨blk_below BK247.out zX⟩, ⟨zB⟩⟩
       case round =>
        clear H'; clear c10b0 hcz31_0 hcz31_1 hcz31_2 hfz31_0 hfz31_1 hfz31_2; obtain ⟨x36_3, rfl, HA, HK3, BK247, HB⟩ := hrel
        cases gk with
        | zero => exact absurd HA.out (by simp [tree_formed.l1])
        | succ k3 =>
         have H := HA.out; clear HA; simp only [tree_formed.l1] at H; replace H := zId H; rcases H with ⟨-, c32b0, H⟩ | ⟨-, c32b0, H⟩
         ·replace H := zJJ H; obtain ⟨c33b0, c34b0, H⟩ := H; replace H := zO H; obtain ⟨t255, A35, H⟩ := H; replace H := zIb H; rcases H with ⟨rfl, H⟩ | ⟨rfl, H⟩
          ·have H' := Aside0.mk H; clear H; have p253 := zQ (0 ≤ (x36_3 : Int)); have q253 := zQ (x36_3 < (l0_2.length : Int)); obtain ⟨ad253, A253_1, c253_1, A253_2, c253_2, e253, hx253_0, hx253_1, hx253_2, hl253_1, hi253_1, hl253_2, hi253_2⟩ := at_T31 HR0_2.out x36_3 p253 q253
           cases e253
           replace hx253_0 := zx HB hx253_0; replace hx253_1 := zx HB hx253_1; replace hx253_2 := zx HB hx253_2; have HR253_1 := Aside0.mk hi253_1; have HC253_1 := Aside0.mk hl253_1; clear hi253_1 hl253_1; have HR253_2 := Aside0.mk hi253_2; have HC253_2 := Aside0.mk hl253_2; clear hi253_2 hl253_2; replace p253 := eq_true p253; replace q253 := eq_true q253
           go_wp2_with (first | ((with_reducible refine gate_dst (N := 8) rfl ?_); refine zbox (N := 8) #[.string (⟨#[]⟩ : ByteArray), .slice none 0 0, .slice none 0 0] 31 (fun gb254 hg w37 hbox hb => ?_); replace BK254 := Aside0.mk hbox; replace GE254 := zg w hg; replace HB := zw hb; replace NB247_254 := zn BK247 hg; replace NB254_247 := zm BK247 hg; replace BK247 := zb BK247 hb; clear hb hbox hg; have hnb38 := NB254_247.out; have hnc38 := NB247_254.out; obtain ⟨hcz39_0, hcz39_1, hcz39_2, hfz39_0, hfz39_1, hfz39_2⟩ := zk3 BK254) | ((with_reducible refine gate_callee (f := 25) rfl ?_); refine goesL_ (some 43) rfl rfl Tryz.func25 (by kernel_rfl) rfl #[.agg #[.string ((rd_T31 l0_2 x36_3).f0), .slice A253_1 ((rd_T31 l0_2 x36_3).f1).length c253_1, .slice A253_2 ((rd_T31 l0_2 x36_3).f2).length c253_2], .int .i64 (wrap64 (a1 - 1))] rfl zA ?_; (with_reducible refine (ih k3 (by have := HJ2.out; have := HK2.out; have := HK3.out; omega) ((rd_T31 l0_2 x36_3).f0) _ _ ((rd_T31 l0_2 x36_3).f1) _ _ ((rd_T31 l0_2 x36_3).f2) (wrap64 (a1 - 1)) true _ zG ?side1 ?side2 ?side3 ?side4 A35.out).mono ?_); (case side1 => exact Kd.C_below HR253_1.out zB); (case side2 => exact HC253_1.out); (case side3 => exact Kd.C_below HR253_2.out zB); (case side4 => exact HC253_2.out); rintro e w40 ⟨rfl, hb⟩; refine ⟨_, rfl, ?_⟩; replace BK247 := Aside0.mk (blk_below (g := gb247) (o := .cells #[.string a0_0, .slice A0_1 l0_1.length c0_1, .slice (some ad253) l0_2.length c0_2] 31 (0, 0)) (by (with_reducible repeat (first | refine blk_drewN ?_ _ | refine blk_drew ?_ | refine blk_alloc ?_ _)); refine blk_far ?_ NB247_254.out _; (with_reducible repeat (first | refine blk_drewN ?_ _ | refine blk_drew ?_ | refine blk_alloc ?_ _)); refine blk_far ?_ NB247_254.out _; (with_reducible repeat (first | refine blk_drewN ?_ _ | refine blk_drew ?_ | refine blk_alloc ?_ _)); refine blk_far ?_ NB247_254.out _; (with_reducible repeat (first | refine blk_drewN ?_ _ | refine blk_drew ?_ | refine blk_alloc ?_ _)); exact BK247.out) hb); replace BK254 := Aside0.mk (blk_below (g := gb254) (o := .cells #[.string ((rd_T31 l0_2 x36_3).f0), .slice A253_1 ((rd_T31 l0_2 x36_3).f1).length c253_1, .slice A253_2 ((rd_T31 l0_2 x36_3).f2).length c253_2] 31 (0, 0)) (by (with_reducible repeat (first | refine blk_drewN ?_ _ | refine blk_drew ?_ | refine blk_alloc ?_ _)); refine blk_put (cs := #[.string ((rd_T31 l0_2 x36_3).f0), .slice A253_1 ((rd_T31 l0_2 x36_3).f1).length c253_1, .slice none 0 0]) ?_ 2 _ rfl; (with_reducible repeat (first | refine blk_drewN ?_ _ | refine blk_drew ?_ | refine blk_alloc ?_ _)); refine blk_put (cs := #[.string ((rd_T31 l0_2 x36_3).f0), .slice none 0 0, .slice none 0 0]) ?_ 1 _ rfl; (with_reducible repeat (first | refine blk_drewN ?_ _ | refine blk_drew ?_ | refine blk_alloc ?_ _)); refine blk_put (cs := #[.string (⟨#[]⟩ : ByteArray), .slice none 0 0, .slice none 0 0]) ?_ 0 _ rfl; (with_reducible repeat (first | refine blk_drewN ?_ _ | refine blk_drew ?_ | refine blk_alloc ?_ _)); exact BK254.out) hb); replace HB := zw hb; clear hb))
           go_roundg k3
           case measure => have := HJ2.out; have := HK2.out; have := HK3.out; omega
           case rel => exact ⟨(wrap64 (x36_3 + 1)), zS, H', ⟨by have := HJ2.out; have := HK2.out; have := HK3.out; omega⟩, ⟨blk_below BK247.out zX⟩, ⟨zB⟩⟩
          ·obtain rfl := Option.some.inj H; have p253 := zQ (0 ≤ (x36_3 : Int)); have q253 := zQ (x36_3 < (l0_2.length : Int)); obtain ⟨ad253, A253_1, c253_1, A253_2, c253_2, e253, hx253_0, hx253_1, hx253_2, hl253_1, hi253_1, hl253_2, hi253_2⟩ := at_T31 HR0_2.out x36_3 p253 q253
           cases e253
           replace hx253_0 := zx HB hx253_0; replace hx253_1 := zx HB hx253_1; replace hx253_2 := zx HB hx253_2; have HR253_1 := Aside0.mk hi253_1; have HC253_1 := Aside0.mk hl253_1; clear hi253_1 hl253_1; have HR253_2 := Aside0.mk hi253_2; have HC253_2 := Aside0.mk hl253_2; clear hi253_2 hl253_2; replace p253 := eq_true p253; replace q253 := eq_true q253
           go_wp2_with (first | ((with_reducible refine gate_dst (N := 8) rfl ?_); refine zbox (N := 8) #[.string (⟨#[]⟩ : ByteArray), .slice none 0 0, .slice none 0 0] 31 (fun gb254 hg w41 hbox hb => ?_); replace BK254 := Aside0.mk hbox; replace GE254 := zg w hg; replace HB := zw hb; replace NB247_254 := zn BK247 hg; replace NB254_247 := zm BK247 hg; replace BK247 := zb BK247 hb; clear hb hbox hg; have hnb42 := NB254_247.out; have hnc42 := NB247_254.out; obtain ⟨hcz43_0, hcz43_1, hcz43_2, hfz43_0, hfz43_1, hfz43_2⟩ := zk3 BK254) | ((with_reducible refine gate_callee (f := 25) rfl ?_); refine goesL_ (some 43) rfl rfl Tryz.func25 (by kernel_rfl) rfl #[.agg #[.string ((rd_T31 l0_2 x36_3).f0), .slice A253_1 ((rd_T31 l0_2 x36_3).f1).length c253_1, .slice A253_2 ((rd_T31 l0_2 x36_3).f2).length c253_2], .int .i64 (wrap64 (a1 - 1))] rfl zA ?_; (with_reducible refine (ih k3 (by have := HJ2.out; have := HK2.out; have := HK3.out; omega) ((rd_T31 l0_2 x36_3).f0) _ _ ((rd_T31 l0_2 x36_3).f1) _ _ ((rd_T31 l0_2 x36_3).f2) (wrap64 (a1 - 1)) false _ zG ?side1 ?side2 ?side3 ?side4 A35.out).mono ?_); (case side1 => exact Kd.C_below HR253_1.out zB); (case side2 => exact HC253_1.out); (case side3 => exact Kd.C_below HR253_2.out zB); (case side4 => exact HC253_2.out); rintro e w44 ⟨rfl, hb⟩; refine ⟨_, rfl, ?_⟩; replace BK247 := Aside0.mk (blk_below (g := gb247) (o := .cells #[.string a0_0, .slice A0_1 l0_1.length c0_1, .slice (some ad253) l0_2.length c0_2] 31 (0, 0)) (by (with_reducible repeat (first | refine blk_drewN ?_ _ | refine blk_drew ?_ | refine blk_alloc ?_ _)); refine blk_far ?_ NB247_254.out _; (with_reducible repeat (first | refine blk_drewN ?_ _ | refine blk_drew ?_ | refine blk_alloc ?_ _)); refine blk_far ?_ NB247_254.out _; (with_reducible repeat (first | refine blk_drewN ?_ _ | refine blk_drew ?_ | refine blk_alloc ?_ _)); refine blk_far ?_ NB247_254.out _; (with_reducible repeat (first | refine blk_drewN ?_ _ | refine blk_drew ?_ | refine blk_alloc ?_ _)); exact BK247.out) hb); replace BK254 := Aside0.mk (blk_below (g := gb254) (o := .cells #[.string ((rd_T31 l0_2 x36_3).f0), .slice A253_1 ((rd_T31 l0_2 x36_3).f1).length c253_1, .slice A253_2 ((rd_T31 l0_2 x36_3).f2).length c253_2] 31 (0, 0)) (by (with_reducible repeat (first | refine blk_drewN ?_ _ | refine blk_drew ?_ | refine blk_alloc ?_ _)); refine blk_put (cs := #[.string ((rd_T31 l0_2 x36_3).f0), .slice A253_1 ((rd_T31 l0_2 x36_3).f1).length c253_1, .slice none 0 0]) ?_ 2 _ rfl; (with_reducible repeat (first | refine blk_drewN ?_ _ | refine blk_drew ?_ | refine blk_alloc ?_ _)); refine blk_put (cs := #[.string ((rd_T31 l0_2 x36_3).f0), .slice none 0 0, .slice none 0 0]) ?_ 1 _ rfl; (with_reducible repeat (first | refine blk_drewN ?_ _ | refine blk_drew ?_ | refine blk_alloc ?_ _)); refine blk_put (cs := #[.string (⟨#[]⟩ : ByteArray), .slice none 0 0, .slice none 0 0]) ?_ 0 _ rfl; (with_reducible repeat (first | refine blk_drewN ?_ _ | refine blk_drew ?_ | refine blk_alloc ?_ _)); exact BK254.out) hb); replace HB := zw hb; clear hb))
           go_ret; exact ⟨zE, zB⟩
         ·obtain rfl := Option.some.inj H; go_wp2; go_ret; exact ⟨zE, zB⟩
def tree_Formed.f (k : Nat) (a0_0 : ByteArray) (l0_1 : List (S49)) (l0_2 : List (S31)) : Option (Bool) := (tree_formed.f k a0_0 l0_1 l0_2 4).bind fun t257 => (if t257 = true then ((tree_Count.f k a0_0 l0_1 l0_2).bind fun t258 => (some (decide (t258 ≤ 300)))) else (some false))
set_option maxHeartbeats 8000000 in
set_option maxRecDepth 100000 in
theorem tree_Formed.calls (k : Nat) (a0_0 : ByteArray) (A0_1 : Option Addr) (c0_1 : Nat) (l0_1 : List (S49)) (A0_2 : Option Addr) (c0_2 : Nat) (l0_2 : List (S31)) (r : Bool) (w : World) (hG : GG w) (hr0_1 : Kd.C k49 w A0_1 l0_1.length l0_1) (hc0_1 : l0_1.length ≤ c0_1) (hr0_2 : Kd.C k31 w A0_2 l0_2.length l0_2) (hc0_2 : l0_2.length ≤ c0_2) (h : tree_Formed.f k a0_0 l0_1 l0_2 = some r) :
  Calls Tryz.prog 11 #[.agg #[.string a0_0, .slice A0_1 l0_1.length c0_1, .slice A0_2 l0_2.length c0_2]] w fun e w' => e = .returned (.bool r) ∧ Below w.heap.size w w' := by
 have hu31 := Tryz.underlying31; have HR0_1 := Aside0.mk hr0_1; have HC0_1 := Aside0.mk hc0_1; clear hr0_1 hc0_1; have HR0_2 := Aside0.mk hr0_2; have HC0_2 := Aside0.mk hc0_2; clear hr0_2 hc0_2; have HB := Aside0.mk (Below.refl w.heap.size w); have H : ((tree_formed.f k a0_0 l0_1 l0_2 4).bind fun t257 => (if t257 = true then ((tree_Count.f k a0_0 l0_1 l0_2).bind fun t258 => (some (decide (t258 ≤ 300)))) else (some false))) = some r := h; clear h; replace H := zO H; obtain ⟨t257, A2, H⟩ := H; replace H := zIb H; rcases H with ⟨rfl, H⟩ | ⟨rfl, H⟩
 ·replace H := zO H; obtain ⟨t258, A4, H⟩ := H; obtain rfl := Option.some.inj H
  go_enter Tryz.func11, Tryz.ntmps11
  go_wp2_with (first | ((with_reducible refine gate_dst (N := 1) rfl ?_); refine zbox (N := 1) #[.string a0_0, .slice A0_1 l0_1.length c0_1, .slice A0_2 l0_2.length c0_2] 31 (fun gb256 hg w5 hbox hb => ?_); replace BK256 := Aside0.mk hbox; replace GE256 := zg w hg; replace HB := zw hb; clear hb hbox hg; obtain ⟨hcz6_0, hcz6_1, hcz6_2, hfz6_0, hfz6_1, hfz6_2⟩ := zk3 BK256) | ((with_reducible refine gate_callee (f := 25) rfl ?_); refine goesL_ (some 4) rfl rfl Tryz.func25 (by kernel_rfl) rfl #[.agg #[.string a0_0, .slice A0_1 l0_1.length c0_1, .slice A0_2 l0_2.length c0_2], .int .i64 4] rfl zA ?_; (with_reducible refine (tree_formed.calls k a0_0 _ _ l0_1 _ _ l0_2 4 true _ zG ?side1 ?side2 ?side3 ?side4 A2.out).mono ?_); (case side1 => exact Kd.C_below (Kd.C_below HR0_1.out HB.out) zX); (case side2 => exact HC0_1.out); (case side3 => exact Kd.C_below (Kd.C_below HR0_2.out HB.out) zX); (case side4 => exact HC0_2.out); rintro e w7 ⟨rfl, hb⟩; refine ⟨_, rfl, ?_⟩; replace BK256 := zb BK256 hb; replace HB := zw hb; clear hb; obtain ⟨hcz8_0, hcz8_1, hcz8_2, hfz8_0, hfz8_1, hfz8_2⟩ := zk3 BK256) | (go_at_call 13; (with_reducible refine (tree_Count.calls k a0_0 _ _ l0_1 _ _ l0_2 t258 _ zG ?side1 ?side2 ?side3 ?side4 A4.out).mono ?_); (case side1 => exact Kd.C_below (Kd.C_below HR0_1.out HB.out) zX); (case side2 => exact HC0_1.out); (case side3 => exact Kd.C_below (Kd.C_below HR0_2.out HB.out) zX); (case side4 => exact HC0_2.out); rintro e w9 ⟨rfl, hb⟩; replace BK256 := zb BK256 hb; replace HB := zw hb; clear hb))
  go_ret; exact ⟨zE, zB⟩
 ·obtain rfl := Option.some.inj H
  go_enter Tryz.func11, Tryz.ntmps11
  go_wp2_with (first | ((with_reducible refine gate_dst (N := 1) rfl ?_); refine zbox (N := 1) #[.string a0_0, .slice A0_1 l0_1.length c0_1, .slice A0_2 l0_2.length c0_2] 31 (fun gb256 hg w10 hbox hb => ?_); replace BK256 := Aside0.mk hbox; replace GE256 := zg w hg; replace HB := zw hb; clear hb hbox hg; obtain ⟨hcz11_0, hcz11_1, hcz11_2, hfz11_0, hfz11_1, hfz11_2⟩ := zk3 BK256) | ((with_reducible refine gate_callee (f := 25) rfl ?_); refine goesL_ (some 4) rfl rfl Tryz.func25 (by kernel_rfl) rfl #[.agg #[.string a0_0, .slice A0_1 l0_1.length c0_1, .slice A0_2 l0_2.length c0_2], .int .i64 4] rfl zA ?_; (with_reducible refine (tree_formed.calls k a0_0 _ _ l0_1 _ _ l0_2 4 false _ zG ?side1 ?side2 ?side3 ?side4 A2.out).mono ?_); (case side1 => exact Kd.C_below (Kd.C_below HR0_1.out HB.out) zX); (case side2 => exact HC0_1.out); (case side3 => exact Kd.C_below (Kd.C_below HR0_2.out HB.out) zX); (case side4 => exact HC0_2.out); rintro e w12 ⟨rfl, hb⟩; refine ⟨_, rfl, ?_⟩; replace BK256 := zb BK256 hb; replace HB := zw hb; clear hb))
  go_ret; exact ⟨zE, zB⟩
end Go.Proofs.YtdojmdbaiddkgaaGreatDoor.Print
end
section
set_option linter.unusedVariables false
set_option linter.unusedSimpArgs false
namespace Go.Proofs.YtdojmdbaiddkgaaGreatDoor.Print
open Go.RowKit Go.Proofs.YtdojmdbaiddkgaaGreatDoorW.PrintWords Go.Proofs.YtdojmdbaiddkgaaGreatDoorW.PrintLast Go.Proofs.YtdojmdbaiddkgaaGreatDoorW.PrintMore
/-- What a byte of a parameter's value is written as. -/
def parB (c : UInt8) : List UInt8 := if c = 94 then [94, 94] else if c = 10 then [94, 110] else if c = 34 then [94, 39] else [c]
def parT (l : List UInt8) : List UInt8 := l.flatMap parB
theorem parB_le (c : UInt8) : (parB c).length ≤ 2 := by unfold parB; split <;> (try split) <;> (try split) <;> simp
theorem parT_le (l : List UInt8) : (parT l).length ≤ 2 * l.length := by
  induction l with
  | nil => simp [parT]
  | cons c t ih => have := parB_le c; simp only [parT, List.flatMap_cons, List.length_append, List.length_cons] at *; omega
theorem parT_cons (c : UInt8) (t : List UInt8) : parT (c :: t) = parB c ++ parT t := by simp [parT]
/-- Bytes for which a value is quoted. -/
def quoB (c : UInt8) : Bool := c == 58 || c == 59 || c == 44
def parL (l : List UInt8) : List UInt8 := if l.any quoB = true then [34] ++ parT l ++ [34] else parT l
def parW (s : ByteArray) : ByteArray := ⟨(parL s.data.toList).toArray⟩
def escape_Param.f (k : Nat) (a0 : ByteArray) : Option (ByteArray × Int) := (escape_Clean.f k a0 true).bind fun e => if e = 0 then (if a0.size ≤ 2000000000 then some (parW a0, 0) else none) else some (⟨#[]⟩, e)
end Go.Proofs.YtdojmdbaiddkgaaGreatDoor.Print
end
section
set_option linter.unusedVariables false
set_option linter.unusedSimpArgs false
namespace Go.Proofs.YtdojmdbaiddkgaaGreatDoor.Print
open Go.RowKit Go.Proofs.YtdojmdbaiddkgaaGreatDoorW.PrintWords Go.Proofs.YtdojmdbaiddkgaaGreatDoorW.PrintLast Go.Proofs.YtdojmdbaiddkgaaGreatDoorW.PrintMore
def subB (c : Nat) : Nat := if c = 94 then 94 else if c = 10 then 110 else 39
/-- The table of replacements, as build makes it. -/
structure RT (p : Nat) (w : World) : Prop where
  nils : ∀ c : Nat, c < 256 → c ≠ 94 → c ≠ 10 → c ≠ 34 → w.cell? ⟨p, c, none⟩ = some (.slice none 0 0)
  subs : ∀ c : Nat, c = 94 ∨ c = 10 ∨ c = 34 → ∃ q cap, w.cell? ⟨p, c, none⟩ = some (.slice (some ⟨q, 0, none⟩) 2 cap) ∧ 2 ≤ cap ∧ w.cell? ⟨q, 0, none⟩ = some (.int .u8 94) ∧ w.cell? ⟨q, 1, none⟩ = some (.int .u8 (subB c))
  list : ∃ t cap, w.cell? ⟨p, 256, none⟩ = some (.slice (some ⟨t, 0, none⟩) 3 cap) ∧ 3 ≤ cap ∧ w.cell? ⟨t, 0, none⟩ = some (.string ⟨#[34]⟩) ∧ w.cell? ⟨t, 1, none⟩ = some (.string ⟨#[10]⟩) ∧ w.cell? ⟨t, 2, none⟩ = some (.string ⟨#[94]⟩)
theorem cellLt {w : World} {a : Addr} {v : Value} (h : w.cell? a = some v) : a.block < w.heap.size := by
  rcases Nat.lt_or_ge a.block w.heap.size with h9 | h9
  · exact h9
  · simp [World.cell?, Array.getElem?_eq_none h9] at h
theorem RT.under {p : Nat} {w w' : World} (h : RT p w) (hb : Below w.heap.size w w') : RT p w' := by
  refine ⟨fun c h0 h1 h2 h3 => ?_, fun c hc => ?_, ?_⟩
  · have := h.nils c h0 h1 h2 h3; exact (hb.cell (cellLt this)).trans this
  · obtain ⟨q, cap, a1, a2, a3, a4⟩ := h.subs c hc
    exact ⟨q, cap, (hb.cell (cellLt a1)).trans a1, a2, (hb.cell (cellLt a3)).trans a3, (hb.cell (cellLt a4)).trans a4⟩
  · obtain ⟨t, cap, a1, a2, a3, a4, a5⟩ := h.list
    exact ⟨t, cap, (hb.cell (cellLt a1)).trans a1, a2, (hb.cell (cellLt a3)).trans a3, (hb.cell (cellLt a4)).trans a4, (hb.cell (cellLt a5)).trans a5⟩
def isS (c : UInt8) : Bool := c == 94 || c == 10 || c == 34
theorem parB_len (c : UInt8) : (parB c).length = if isS c = true then 2 else 1 := by
  unfold parB isS
  by_cases h1 : c = 94
  · subst h1; rfl
  by_cases h2 : c = 10
  · subst h2; rfl
  by_cases h3 : c = 34
  · subst h3; rfl
  rw [if_neg h1, if_neg h2, if_neg h3, if_neg (by simp [h1, h2, h3])]; rfl
theorem parT_snoc (l : List UInt8) (c : UInt8) : parT (l ++ [c]) = parT l ++ parB c := by simp [parT]
theorem parB_no (c : UInt8) (h : isS c = false) : parB c = [c] := by
  unfold isS at h
  simp only [Bool.or_eq_false_iff, beq_eq_false_iff_ne] at h
  unfold parB
  rw [if_neg h.1.1, if_neg h.1.2, if_neg h.2]
theorem parT_no : ∀ (l : List UInt8), l.any isS = false → parT l = l
  | [], _ => rfl
  | c :: t, h => by
    rw [List.any_cons, Bool.or_eq_false_iff] at h
    rw [parT_cons, parB_no c h.1, parT_no t h.2]; rfl
theorem ba_of (s : ByteArray) : (⟨s.data.toList.toArray⟩ : ByteArray) = s := by cases s; simp
theorem i8ex : (Tryz.prog.info? 5).map (fun i => (i.zero, i.size, i.bytes)) = some (some (.int .u8 0), 1, 1) := by kernel_rfl
structure I8 (i : TypeInfo) : Prop where
  hi : Tryz.prog.info? 5 = some i
  hz : i.zero = some (.int .u8 0)
  hs : i.size = 1
  hb : i.bytes = 1
theorem i8 : ∃ i, I8 i := by
  obtain ⟨i, hi, h⟩ := Option.map_eq_some_iff.1 i8ex
  simp only [Prod.mk.injEq] at h
  exact ⟨i, hi, h.1, h.2.1, h.2.2⟩
theorem cell_blk {w : World} {g : Nat} {cs : Array Value} {t : TypeId} {fr : Nat × Nat} (h : w.heap[g]? = some (.cells cs t fr)) (j : Nat) : w.cell? ⟨g, j, none⟩ = cs[j]? := by simp [World.cell?, h]
theorem froz_blk {w : World} {g : Nat} {cs : Array Value} {t : TypeId} (h : w.heap[g]? = some (.cells cs t (0, 0))) (j : Nat) : w.frozen? ⟨g, j, none⟩ = false := by simp [World.frozen?, h]
theorem row_put (cur : Array Value) (L M : List UInt8) (n : Nat) (hsz : cur.size = n) (hL : ∀ x, x < L.length → cur[x]? = some (.int .u8 (((L.getD x 0).toNat : Nat) : Int))) (hfit : L.length + M.length ≤ n) :
    (cur.toList.take L.length ++ M.map (fun b => Value.int .u8 ((b.toNat : Nat) : Int)) ++ cur.toList.drop (L.length + M.length)).toArray.size = n ∧
    ∀ x, x < (L ++ M).length → (cur.toList.take L.length ++ M.map (fun b => Value.int .u8 ((b.toNat : Nat) : Int)) ++ cur.toList.drop (L.length + M.length)).toArray[x]? = some (.int .u8 ((((L ++ M).getD x 0).toNat : Nat) : Int)) := by
  have hl : cur.toList.length = n := by rw [Array.length_toList]; exact hsz
  refine ⟨by rw [List.size_toArray]; simp only [List.length_append, List.length_take, List.length_map, List.length_drop]; omega, fun x hx => ?_⟩
  rw [List.length_append] at hx
  rw [List.getElem?_toArray, List.append_assoc]
  by_cases h : x < L.length
  · rw [List.getElem?_append_left (by rw [List.length_take]; omega), List.getElem?_take_of_lt h, Array.getElem?_toList, hL x h, List.getD_eq_getElem?_getD, List.getD_eq_getElem?_getD, List.getElem?_append_left h]
  · have h2 : (cur.toList.take L.length).length = L.length := by rw [List.length_take]; omega
    have hm : x - L.length < M.length := by omega
    rw [List.getElem?_append_right (by omega), h2, List.getElem?_append_left (by rw [List.length_map]; exact hm), List.getElem?_map, List.getD_eq_getElem?_getD, List.getElem?_append_right (by omega), List.getElem?_eq_getElem hm]
    rfl
theorem row_set (cur : Array Value) (L : List UInt8) (c : UInt8) (n : Nat) (hsz : cur.size = n) (hL : ∀ x, x < L.length → cur[x]? = some (.int .u8 (((L.getD x 0).toNat : Nat) : Int))) (hfit : L.length + 1 ≤ n) :
    (cur.setIfInBounds L.length (.int .u8 ((c.toNat : Nat) : Int))).size = n ∧ ∀ x, x < (L ++ [c]).length → (cur.setIfInBounds L.length (.int .u8 ((c.toNat : Nat) : Int)))[x]? = some (.int .u8 ((((L ++ [c]).getD x 0).toNat : Nat) : Int)) := by
  refine ⟨by rw [Array.size_setIfInBounds]; exact hsz, fun x hx => ?_⟩
  rw [List.length_append, List.length_cons, List.length_nil] at hx
  by_cases h : x < L.length
  · rw [Array.getElem?_setIfInBounds_ne (by omega), hL x h, List.getD_eq_getElem?_getD, List.getD_eq_getElem?_getD, List.getElem?_append_left h]
  · obtain rfl : x = L.length := by omega
    rw [Array.getElem?_setIfInBounds_self_of_lt (by omega), List.getD_eq_getElem?_getD, List.getElem?_append_right (Nat.le_refl _), Nat.sub_self]
    rfl
theorem blkSet {w : World} {g : Nat} {t : TypeId} {cs : Array Value} (h : w.heap[g]? = some (.cells cs t (0, 0))) (i : Nat) (u : Value) : (w.setCell ⟨g, i, none⟩ u).heap[g]? = some (.cells (cs.setIfInBounds i u) t (0, 0)) := by
  simp [World.setCell, Array.getElem?_modify, h]
theorem neq_nil (w : World) : (binOp .neq 82 (.slice none 0 0) (.slice none 0 0)).run Tryz.prog w = .ok (.bool false) w := by kernel_rfl
theorem neq_some (q : Addr) (n c : Nat) (w : World) : (binOp .neq 82 (.slice (some q) n c) (.slice none 0 0)).run Tryz.prog w = .ok (.bool true) w := by kernel_rfl
set_option maxHeartbeats 4000000 in
set_option maxRecDepth 100000 in
theorem bsr_short (p : Nat) (s : ByteArray) (w : World) (hT : RT p w) (hs : s.size < 24) :
    Calls Tryz.prog 167 #[.pointer (some ⟨p, 0, none⟩), .string s] w fun e w' => e = .returned (.string ⟨(parT s.data.toList).toArray⟩) ∧ Below w.heap.size w w' := by
  have HT := Aside0.mk hT
  obtain ⟨t, cap, a1, a2, a3, a4, a5⟩ := hT.list
  clear hT
  have hd : decide (24 ≤ s.size) = false := decide_eq_false (by omega)
  go_enter Tryz.func167, Tryz.ntmps167
  go_wp2
  go_loopg [5, 6, 10] s.size (fun g v5 v6 v10 wr => ∃ i : Nat, v10 = .int .i64 i ∧ i ≤ s.size ∧ Aside0 (s.size ≤ i + g) ∧ v5 = .int .i64 (((parT (s.data.toList.take i)).length + (s.size - i) : Nat) : Int) ∧ v6 = .bool ((s.data.toList.take i).any isS) ∧ wr = w)
  case atStart => exact ⟨0, rfl, by omega, ⟨by omega⟩, by simp [parT], by simp, rfl⟩
  case round =>
    obtain ⟨i, rfl, hi, HI, rfl, rfl, rfl⟩ := hrel
    by_cases hlt : i < s.size
    · have hd2 : decide (i < s.size) = true := decide_eq_true hlt
      obtain ⟨c, hc⟩ : ∃ c : UInt8, s[i] = c := ⟨_, rfl⟩
      have hc2 : c.toNat < 256 := c.toNat_lt
      have HTk : Aside0 (s.data.toList.take (i + 1) = s.data.toList.take i ++ [c]) := ⟨by
        rw [List.take_succ_eq_append_getElem (by simpa using hlt)]; rw [← hc]; rfl⟩
      have HPL := Aside0.mk (parB_len c)
      cases gk with
      | zero => exfalso; have := HI.out; omega
      | succ g =>
      by_cases hsp : isS c = true
      · have hsc : c.toNat = 94 ∨ c.toNat = 10 ∨ c.toNat = 34 := by
          unfold isS at hsp
          rw [Bool.or_eq_true, Bool.or_eq_true, beq_iff_eq, beq_iff_eq, beq_iff_eq] at hsp
          rcases hsp with (h | h) | h
          · rw [h]; exact .inl rfl
          · rw [h]; exact .inr (.inl rfl)
          · rw [h]; exact .inr (.inr rfl)
        obtain ⟨q, qc, b1, b2, b3, b4⟩ := HT.out.subs c.toNat hsc
        have nq := neq_some
        go_wp2
        go_roundg g
        case measure => have := HI.out; omega
        case rel =>
          have h1 := parT_le (s.data.toList.take i)
          have h2 : (s.data.toList.take i).length = i := by rw [List.length_take, Array.length_toList]; have e : s.data.size = s.size := rfl; omega
          rw [h2] at h1
          refine ⟨i + 1, by first | rfl | (go_num; done) | (congr 1; omega), by omega, ⟨by have := HI.out; omega⟩, ?_, ?_, rfl⟩
          · rw [HTk.out, parT_snoc, List.length_append, HPL.out, if_pos hsp]; congr 1; unfold wrap64; omega
          · rw [HTk.out, List.any_append, List.any_cons, hsp]; simp
      · have hcell : wr.cell? ⟨p, c.toNat, none⟩ = some (.slice none 0 0) := by
          rw [Bool.not_eq_true] at hsp
          unfold isS at hsp
          simp only [Bool.or_eq_false_iff, beq_eq_false_iff_ne] at hsp
          have ne : ∀ n : Nat, n < 256 → c ≠ n.toUInt8 → c.toNat ≠ n := fun n hn h e => h (by apply UInt8.toNat_inj.1; rw [e]; simp; omega)
          exact HT.out.nils c.toNat hc2 (ne 94 (by omega) hsp.1.1) (ne 10 (by omega) hsp.1.2) (ne 34 (by omega) hsp.2)
        have nq := neq_nil
        go_wp2
        go_roundg g
        case measure => have := HI.out; omega
        case rel =>
          rw [Bool.not_eq_true] at hsp
          refine ⟨i + 1, by first | rfl | (go_num; done) | (congr 1; omega), by omega, ⟨by have := HI.out; omega⟩, ?_, ?_, rfl⟩
          · rw [HTk.out, parT_snoc, List.length_append, HPL.out, if_neg (by rw [hsp]; simp)]; congr 1; omega
          · rw [HTk.out, List.any_append, List.any_cons, hsp]; simp
    · have hd2 : decide (i < s.size) = false := decide_eq_false hlt
      have hil : i = s.size := by omega
      subst hil
      have htk : s.data.toList.take s.size = s.data.toList := List.take_of_length_le (by simp)
      rw [htk, Nat.sub_self, Nat.add_zero]
      by_cases hany : s.data.toList.any isS = true
      · rw [hany]
        have hpl := parT_le s.data.toList
        have e : s.data.toList.length = s.size := by simp
        rw [e] at hpl
        have HPA : Aside0 (∃ n, (parT s.data.toList).length = n ∧ n ≤ 100) := ⟨⟨_, rfl, by omega⟩⟩
        obtain ⟨n, hn, hn2⟩ := HPA.out
        rw [hn]
        clear hpl
        obtain ⟨ti, I⟩ := i8
        have hmk := run_make (P := Tryz.prog) wr 82 5 ti (.int .u8 0) Tryz.underlying82 I.hi I.hz .i64 .i64 (n : Int) (n : Int) (by omega) (by omega) (by rw [I.hb]; omega) (by omega)
        rw [Int.toNat_natCast, I.hs, Nat.mul_one] at hmk
        go_wp2
        have HN := Aside0.mk hn
        clear hn hmk htk hany HI HPA
        have hal := (Below.refl wr.heap.size wr).alloc (Nat.le_refl _) (.cells (madeCells #[.int .u8 0] n) 5)
        have hblk : (wr.alloc (.cells (madeCells #[.int .u8 0] n) 5)).heap[wr.heap.size]? = some (.cells (madeCells #[.int .u8 0] n) 5 (0, 0)) := by simp only [World.alloc, Array.getElem?_push_size]
        have HBL := Aside0.mk hblk
        have HAL := Aside0.mk hal
        clear hblk hal
        obtain ⟨G, hGd⟩ : ∃ G, G = wr.heap.size := ⟨_, rfl⟩
        rw [← hGd] at HBL ⊢
        have HGE := Aside0.mk hGd
        clear hGd
        go_loopg [13, 14] s.size (fun g v13 v14 wr2 => ∃ (k : Nat) (cur : Array Value), v14 = .int .i64 k ∧ v13 = .int .i64 ((parT (s.data.toList.take k)).length : Nat) ∧ k ≤ s.size ∧ Aside0 (s.size ≤ k + g) ∧ Aside0 (wr2.heap[G]? = some (.cells cur 5 (0, 0)) ∧ cur.size = n ∧ ∀ x, x < (parT (s.data.toList.take k)).length → cur[x]? = some (.int .u8 ((((parT (s.data.toList.take k)).getD x 0).toNat : Nat) : Int))) ∧ Aside0 (Below wr.heap.size wr wr2))
        case atStart => exact ⟨0, _, rfl, by simp [parT], by omega, ⟨by omega⟩, ⟨HBL.out, by simp [madeCells], fun x hx => by simp [parT] at hx⟩, HAL⟩
        case round =>
          obtain ⟨k, cur, rfl, rfl, hk, HK, HC, HB⟩ := hrel
          by_cases hlt2 : k < s.size
          · have hd3 : decide (k < s.size) = true := decide_eq_true hlt2
            obtain ⟨c, hc⟩ : ∃ c : UInt8, s[k] = c := ⟨_, rfl⟩
            have hc2 : c.toNat < 256 := c.toNat_lt
            have HTk : Aside0 (s.data.toList.take (k + 1) = s.data.toList.take k ++ [c]) := ⟨by
              rw [List.take_succ_eq_append_getElem (by simpa using hlt2)]; rw [← hc]; rfl⟩
            have HTn := HT.out.under HB.out
            have HLn : Aside0 ((parT (s.data.toList.take (k + 1))).length ≤ n) := ⟨by
              have h1 : parT s.data.toList = parT (s.data.toList.take (k + 1)) ++ parT (s.data.toList.drop (k + 1)) := by
                unfold parT; rw [← List.flatMap_append, List.take_append_drop]
              rw [← HN.out, h1, List.length_append]; omega⟩
            have hLn := HLn.out
            rw [HTk.out, parT_snoc, List.length_append, parB_len] at hLn
            cases gk with
            | zero => exfalso; have := HK.out; omega
            | succ g =>
            obtain ⟨J, hJ⟩ : ∃ J, (parT (s.data.toList.take k)).length = J := ⟨_, rfl⟩
            rw [hJ] at hLn HC ⊢
            have HJ := Aside0.mk hJ
            clear hJ
            by_cases hsp : isS c = true
            · have hsc : c.toNat = 94 ∨ c.toNat = 10 ∨ c.toNat = 34 := by
                unfold isS at hsp
                rw [Bool.or_eq_true, Bool.or_eq_true, beq_iff_eq, beq_iff_eq, beq_iff_eq] at hsp
                rcases hsp with (h | h) | h
                · rw [h]; exact .inl rfl
                · rw [h]; exact .inr (.inl rfl)
                · rw [h]; exact .inr (.inr rfl)
              obtain ⟨q, qc, b1, b2, b3, b4⟩ := HTn.subs c.toNat hsc
              have nq := neq_some
              rw [if_pos hsp] at hLn
              have hJn : decide (J ≤ n) = true := decide_eq_true (by omega)
              obtain ⟨ti2, I2⟩ := i8
              have hcp := run_copy_row (P := Tryz.prog) wr.drew 82 82 3 5 G J (n - J) (n - J) ⟨q, 0, none⟩ 2 qc cur 5 [.int .u8 94, .int .u8 (subB c.toNat)] Tryz.underlying82 (by rw [I2.hi]; simp [I2.hs]) HC.out.1 (by simp only [List.length_cons, List.length_nil]; show 2 = min 2 (n - J); omega)
                (fun j v hj => by
                  have hjl : j < 2 := (List.getElem?_eq_some_iff.1 hj).1
                  have hj2 : j = 0 ∨ j = 1 := by omega
                  rcases hj2 with rfl | rfl
                  · have : v = .int .u8 94 := by simpa using hj.symm
                    rw [this, World.cell?_drew]; exact b3
                  · have : v = .int .u8 (subB c.toNat) := by simpa using hj.symm
                    rw [this, World.cell?_drew]; exact b4)
                (by have := HC.out.2.1; simp only [List.length_cons, List.length_nil]; omega) (by intro v hv; simp only [List.mem_cons, List.not_mem_nil, or_false] at hv; rcases hv with rfl | rfl <;> rfl)
              simp only [List.length_cons, List.length_nil] at hcp
              have HC3 := HC.out
              have hpb : ([.int .u8 94, .int .u8 (subB c.toNat)] : List Value) = (parB c).map (fun b => Value.int .u8 ((b.toNat : Nat) : Int)) := by
                rcases hsc with h | h | h
                · have hc9 : c = 94 := by apply UInt8.toNat_inj.1; rw [h]; rfl
                  subst hc9; rfl
                · have hc9 : c = 10 := by apply UInt8.toNat_inj.1; rw [h]; rfl
                  subst hc9; rfl
                · have hc9 : c = 34 := by apply UInt8.toNat_inj.1; rw [h]; rfl
                  subst hc9; rfl
              have HPB := Aside0.mk hpb
              clear hpb hsc
              go_wp2
              go_region
              go_wp2
              go_roundg g
              case measure => have := HK.out; omega
              case rel =>
                have hlen2 : (parB c).length = 2 := by rw [parB_len, if_pos hsp]
                have hJ2 := HJ.out
                have hrp := row_put cur (parT (s.data.toList.take k)) (parB c) n HC3.2.1 (fun x hx => HC3.2.2 x (by rw [← hJ2]; exact hx)) (by rw [hJ2, hlen2]; omega)
                rw [hJ2, hlen2, ← HPB.out] at hrp
                simp only [List.append_assoc, List.cons_append, List.nil_append] at hrp
                refine ⟨k + 1, _, by first | rfl | (go_num; done) | (congr 1; omega), by rw [HTk.out, parT_snoc, List.length_append, hJ2, hlen2]; rfl, by omega, ⟨by have := HK.out; omega⟩, ⟨setRow_heap _ _ _ _ _ _ HC3.1, hrp.1, fun x hx => ?_⟩, ⟨below_setRow (below_drew HB.out) (by have := HGE.out; omega) _⟩⟩
                rw [HTk.out, parT_snoc] at hx ⊢
                exact hrp.2 x hx
            · have hcell : wr.cell? ⟨p, c.toNat, none⟩ = some (.slice none 0 0) := by
                rw [Bool.not_eq_true] at hsp
                unfold isS at hsp
                simp only [Bool.or_eq_false_iff, beq_eq_false_iff_ne] at hsp
                have ne : ∀ n : Nat, n < 256 → c ≠ n.toUInt8 → c.toNat ≠ n := fun n hn h e => h (by apply UInt8.toNat_inj.1; rw [e]; simp; omega)
                exact HTn.nils c.toNat hc2 (ne 94 (by omega) hsp.1.1) (ne 10 (by omega) hsp.1.2) (ne 34 (by omega) hsp.2)
              have nq := neq_nil
              rw [if_neg hsp] at hLn
              have hJn : decide (J < n) = true := decide_eq_true (by omega)
              have hold : wr.cell? ⟨G, J, none⟩ = some (cur[J]'(by have := HC.out.2.1; omega)) := by
                rw [cell_blk HC.out.1, Array.getElem?_eq_getElem]
              have hfz := froz_blk HC.out.1 J
              go_wp2
              go_roundg g
              case measure => have := HK.out; omega
              case rel =>
                have hlen1 : parB c = [c] := parB_no c (by rw [Bool.not_eq_true] at hsp; exact hsp)
                have hJ2 := HJ.out
                have hrs := row_set cur (parT (s.data.toList.take k)) c n HC.out.2.1 (fun x hx => HC.out.2.2 x (by rw [← hJ2]; exact hx)) (by rw [hJ2]; omega)
                rw [hJ2] at hrs
                refine ⟨k + 1, _, by first | rfl | (go_num; done) | (congr 1; omega), by rw [HTk.out, parT_snoc, hlen1, List.length_append, hJ2]; rfl, by omega, ⟨by have := HK.out; omega⟩, ⟨blkSet HC.out.1 _ _, hrs.1, fun x hx => ?_⟩, ⟨Below.setCell HB.out (by have := HGE.out; show _ ≤ G; omega) _⟩⟩
                rw [HTk.out, parT_snoc, hlen1] at hx ⊢
                exact hrs.2 x hx
          · have hd3 : decide (k < s.size) = false := decide_eq_false hlt2
            have hks : k = s.size := by omega
            subst hks
            have htk2 : s.data.toList.take s.size = s.data.toList := List.take_of_length_le (by simp)
            rw [htk2] at HC ⊢
            have hcv := run_convert_bytes_back (P := Tryz.prog) wr 82 9 5 ⟨G, 0, none⟩ n (parT s.data.toList) Tryz.underlying82 Tryz.underlying5 Tryz.underlying9 (fun j hj => by
              have ha : (⟨G, 0, none⟩ : Addr).add j = ⟨G, j, none⟩ := by
                unfold Addr.add
                split
                · rename_i h8; subst h8; rfl
                · simp
              rw [ha, cell_blk HC.out.1, HC.out.2.2 j hj, List.getD_eq_getElem?_getD, List.getElem?_eq_getElem hj]; rfl)
            rw [HN.out] at hcv
            go_wp2
            go_ret
            exact ⟨rfl, HB.out⟩
      · rw [Bool.not_eq_true] at hany
        rw [hany]
        have hno := parT_no _ hany
        go_wp2
        go_ret
        exact ⟨by rw [hno, ba_of]; rfl, Below.refl _ _⟩
end Go.Proofs.YtdojmdbaiddkgaaGreatDoor.Print
end
section
set_option linter.unusedVariables false
set_option linter.unusedSimpArgs false
namespace Go.Proofs.YtdojmdbaiddkgaaGreatDoor.Print
open Go.RowKit Go.Proofs.YtdojmdbaiddkgaaGreatDoorW.PrintWords Go.Proofs.YtdojmdbaiddkgaaGreatDoorW.PrintLast Go.Proofs.YtdojmdbaiddkgaaGreatDoorW.PrintMore
def seqC : Nat → UInt8
  | 0 => 34
  | 1 => 10
  | _ => 94
def cntS : Nat → List UInt8 → Nat
  | 0, _ => 0
  | i + 1, l => cntS i l + Lib.countByte l (seqC i)
theorem cntS_le : ∀ (i : Nat) (l : List UInt8), cntS i l ≤ i * l.length
  | 0, l => by simp [cntS]
  | i + 1, l => by
    have h1 := cntS_le i l
    have h2 : Lib.countByte l (seqC i) ≤ l.length := List.count_le_length
    rw [cntS, Nat.add_mul, Nat.one_mul]; omega
theorem cnt_cons (c : UInt8) (t : List UInt8) (x : UInt8) : Lib.countByte (c :: t) x = Lib.countByte t x + if c = x then 1 else 0 := by
  unfold Lib.countByte
  rw [List.count_cons]
  by_cases h : c = x
  · simp [h]
  · simp [h]
theorem cnt3 (l : List UInt8) : cntS 3 l = Lib.countByte l 34 + Lib.countByte l 10 + Lib.countByte l 94 := by
  simp only [cntS, seqC]; omega
theorem cnt3_cons (c : UInt8) (t : List UInt8) : cntS 3 (c :: t) = cntS 3 t + if isS c = true then 1 else 0 := by
  rw [cnt3, cnt3, cnt_cons, cnt_cons, cnt_cons]
  unfold isS
  by_cases h1 : c = 94
  · subst h1; simp; omega
  by_cases h2 : c = 10
  · subst h2; simp; omega
  by_cases h3 : c = 34
  · subst h3; simp; omega
  simp [h1, h2, h3]
theorem par_cnt : ∀ (l : List UInt8), (parT l).length = l.length + cntS 3 l
  | [] => by rw [cnt3]; rfl
  | c :: t => by
    rw [parT_cons, List.length_append, par_cnt t, parB_len, cnt3_cons, List.length_cons]
    split <;> omega
theorem any_cnt : ∀ (l : List UInt8), l.any isS = decide (0 < cntS 3 l)
  | [] => by rw [cnt3]; rfl
  | c :: t => by
    rw [List.any_cons, any_cnt t, cnt3_cons]
    cases h : isS c
    · simp
    · simp
set_option maxHeartbeats 4000000 in
set_option maxRecDepth 100000 in
theorem bsr_long (p : Nat) (s : ByteArray) (w : World) (hT : RT p w) (hs24 : ¬ s.size < 24) (hs : s.size ≤ 2000000000) :
    Calls Tryz.prog 167 #[.pointer (some ⟨p, 0, none⟩), .string s] w fun e w' => e = .returned (.string ⟨(parT s.data.toList).toArray⟩) ∧ Below w.heap.size w w' := by
  have HT := Aside0.mk hT
  obtain ⟨t, cap, a1, a2, a3, a4, a5⟩ := hT.list
  clear hT
  have hd : decide (24 ≤ s.size) = true := decide_eq_true (by omega)
  have hdI : decide ((24 : Int) ≤ (s.size : Int)) = true := decide_eq_true (by omega)
  go_enter Tryz.func167, Tryz.ntmps167
  go_wp2
  go_loopg [5, 6, 32] 3 (fun g v5 v6 v32 wr => ∃ (i : Nat) (N : Int) (B : Bool), v32 = .int .i64 i ∧ i ≤ 3 ∧ Aside0 (3 ≤ i + g) ∧ v5 = .int .i64 N ∧ v6 = .bool B ∧ Aside0 (N = ((s.size + cntS i s.data.toList : Nat) : Int)) ∧ Aside0 (B = decide (0 < cntS i s.data.toList)) ∧ Aside0 (Below w.heap.size w wr))
  case atStart => exact ⟨0, _, _, rfl, by omega, ⟨by omega⟩, rfl, rfl, ⟨by simp [cntS]⟩, ⟨by simp [cntS]⟩, ⟨Below.refl _ _⟩⟩
  case round =>
    obtain ⟨i, N, B, rfl, hi, HI, rfl, rfl, HNN, HBB, HW⟩ := hrel
    have a1 := (HW.out.cell (cellLt a1)).trans a1
    have a3 := (HW.out.cell (cellLt a3)).trans a3
    have a4 := (HW.out.cell (cellLt a4)).trans a4
    have a5 := (HW.out.cell (cellLt a5)).trans a5
    have HT := Aside0.mk (HT.out.under HW.out)
    by_cases hlt : i < 3
    · cases gk with
      | zero => exfalso; have := HI.out; omega
      | succ g =>
      have nq := neq_some
      have e0 : s.data.toList.length = s.size := by simp
      have hd2 : decide (i < 3) = true := decide_eq_true hlt
      have hcell : wr.cell? ⟨t, i, none⟩ = some (.string ⟨#[seqC i]⟩) := by
        have hi3 : i = 0 ∨ i = 1 ∨ i = 2 := by omega
        rcases hi3 with rfl | rfl | rfl
        · exact a3
        · exact a4
        · exact a5
      have hsc : (seqC i).toNat = 94 ∨ (seqC i).toNat = 10 ∨ (seqC i).toNat = 34 := by
        have hi3 : i = 0 ∨ i = 1 ∨ i = 2 := by omega
        rcases hi3 with rfl | rfl | rfl
        · exact .inr (.inr rfl)
        · exact .inr (.inl rfl)
        · exact .inl rfl
      obtain ⟨q, qc, b1, b2, b3, b4⟩ := HT.out.subs (seqC i).toNat hsc
      have HS : Aside0 (cntS (i + 1) s.data.toList = cntS i s.data.toList + Lib.countByte s.data.toList (seqC i)) := ⟨rfl⟩
      have hle1 := cntS_le (i + 1) s.data.toList
      have hle0 := cntS_le i s.data.toList
      rw [HS.out] at hle1
      have h3 : i ≤ 2 := by omega
      obtain ⟨C, hCd⟩ : ∃ C, Lib.countByte s.data.toList (seqC i) = C := ⟨_, rfl⟩
      rw [hCd] at HS hle1
      have HCd := Aside0.mk hCd
      clear hCd
      obtain ⟨D, hDd⟩ : ∃ D, cntS i s.data.toList = D := ⟨_, rfl⟩
      rw [hDd] at HS hle1 hle0 HNN HBB
      clear hDd
      have hle3 : D + C ≤ 3 * s.size := Nat.le_trans hle1 (by rw [e0]; exact Nat.mul_le_mul_right _ (by omega))
      have hx0 : (⟨#[seqC i]⟩ : ByteArray)[0]'(by show 0 < 1; omega) = seqC i := rfl
      have h256 : (seqC i).toNat < 256 := (seqC i).toNat_lt
      have hd256 : decide ((seqC i).toNat < 256) = true := decide_eq_true h256
      clear a3 a4 a5 hsc
      by_cases hC0 : C = 0
      · subst hC0
        have hb : (((0 : Nat) : Int) != 0) = false := rfl
        go_wp2_with (go_at_call 169; refine (Tryz.strings_Count_one _ _ _).mono ?_; rintro e w' ⟨rfl, hw⟩; rw [hw, HCd.out]; clear hw)
        go_roundg g
        case measure => have := HI.out; omega
        case rel => exact ⟨i + 1, _, _, by first | rfl | (go_num; done) | (congr 1; omega), by omega, ⟨by have := HI.out; omega⟩, rfl, rfl, ⟨by rw [HS.out, HNN.out]; rfl⟩, ⟨by rw [HS.out, HBB.out, Nat.add_zero]⟩, HW⟩
      · have hb : (((C : Nat) : Int) != 0) = true := bne_iff_ne.2 (by omega)
        go_wp2_with (go_at_call 169; refine (Tryz.strings_Count_one _ _ _).mono ?_; rintro e w' ⟨rfl, hw⟩; rw [hw, HCd.out]; clear hw)
        go_region
        go_wp2
        go_roundg g
        case measure => have := HI.out; omega
        case rel => exact ⟨i + 1, _, _, by first | rfl | (go_num; done) | (congr 1; omega), by omega, ⟨by have := HI.out; omega⟩, rfl, rfl, ⟨by rw [HS.out]; have := HNN.out; first | omega | (unfold wrap64; omega) | (simp only [wrap64]; omega)⟩, ⟨by rw [HS.out, decide_eq_true (by omega)]⟩, ⟨below_drew HW.out⟩⟩
    · have hi3 : i = 3 := by omega
      subst hi3
      have hcn := par_cnt s.data.toList
      have hcy := any_cnt s.data.toList
      have e : s.data.toList.length = s.size := by simp
      rw [e] at hcn
      have hN := HNN.out
      have hB := HBB.out
      rw [← hcn] at hN
      rw [← hcy] at hB
      subst hN
      subst hB
      clear HNN HBB
      by_cases hany : s.data.toList.any isS = true
      · rw [hany]
        have hpl := parT_le s.data.toList
        have e : s.data.toList.length = s.size := by simp
        rw [e] at hpl
        have HPA : Aside0 (∃ n, (parT s.data.toList).length = n ∧ n ≤ 4000000000) := ⟨⟨_, rfl, by omega⟩⟩
        obtain ⟨n, hn, hn2⟩ := HPA.out
        rw [hn]
        clear hpl
        obtain ⟨ti, I⟩ := i8
        have hmk := run_make (P := Tryz.prog) wr 82 5 ti (.int .u8 0) Tryz.underlying82 I.hi I.hz .i64 .i64 (n : Int) (n : Int) (by omega) (by omega) (by rw [I.hb]; omega) (by omega)
        rw [Int.toNat_natCast, I.hs, Nat.mul_one] at hmk
        go_wp2
        have HN := Aside0.mk hn
        clear hn hmk hany HI HPA hcn hcy
        have hal := (Below.refl wr.heap.size wr).alloc (Nat.le_refl _) (.cells (madeCells #[.int .u8 0] n) 5)
        have hblk : (wr.alloc (.cells (madeCells #[.int .u8 0] n) 5)).heap[wr.heap.size]? = some (.cells (madeCells #[.int .u8 0] n) 5 (0, 0)) := by simp only [World.alloc, Array.getElem?_push_size]
        have HBL := Aside0.mk hblk
        have HAL := Aside0.mk hal
        clear hblk hal
        obtain ⟨G, hGd⟩ : ∃ G, G = wr.heap.size := ⟨_, rfl⟩
        rw [← hGd] at HBL ⊢
        have HGE := Aside0.mk hGd
        clear hGd
        go_loopg [13, 14] s.size (fun g v13 v14 wr2 => ∃ (k : Nat) (cur : Array Value), v14 = .int .i64 k ∧ v13 = .int .i64 ((parT (s.data.toList.take k)).length : Nat) ∧ k ≤ s.size ∧ Aside0 (s.size ≤ k + g) ∧ Aside0 (wr2.heap[G]? = some (.cells cur 5 (0, 0)) ∧ cur.size = n ∧ ∀ x, x < (parT (s.data.toList.take k)).length → cur[x]? = some (.int .u8 ((((parT (s.data.toList.take k)).getD x 0).toNat : Nat) : Int))) ∧ Aside0 (Below wr.heap.size wr wr2))
        case atStart => exact ⟨0, _, rfl, by simp [parT], by omega, ⟨by omega⟩, ⟨HBL.out, by simp [madeCells], fun x hx => by simp [parT] at hx⟩, HAL⟩
        case round =>
          obtain ⟨k, cur, rfl, rfl, hk, HK, HC, HB⟩ := hrel
          by_cases hlt2 : k < s.size
          · have hd3 : decide (k < s.size) = true := decide_eq_true hlt2
            obtain ⟨c, hc⟩ : ∃ c : UInt8, s[k] = c := ⟨_, rfl⟩
            have hc2 : c.toNat < 256 := c.toNat_lt
            have HTk : Aside0 (s.data.toList.take (k + 1) = s.data.toList.take k ++ [c]) := ⟨by
              rw [List.take_succ_eq_append_getElem (by simpa using hlt2)]; rw [← hc]; rfl⟩
            have HTn := HT.out.under HB.out
            have HLn : Aside0 ((parT (s.data.toList.take (k + 1))).length ≤ n) := ⟨by
              have h1 : parT s.data.toList = parT (s.data.toList.take (k + 1)) ++ parT (s.data.toList.drop (k + 1)) := by
                unfold parT; rw [← List.flatMap_append, List.take_append_drop]
              rw [← HN.out, h1, List.length_append]; omega⟩
            have hLn := HLn.out
            rw [HTk.out, parT_snoc, List.length_append, parB_len] at hLn
            cases gk with
            | zero => exfalso; have := HK.out; omega
            | succ g =>
            obtain ⟨J, hJ⟩ : ∃ J, (parT (s.data.toList.take k)).length = J := ⟨_, rfl⟩
            rw [hJ] at hLn HC ⊢
            have HJ := Aside0.mk hJ
            clear hJ
            by_cases hsp : isS c = true
            · have hsc : c.toNat = 94 ∨ c.toNat = 10 ∨ c.toNat = 34 := by
                unfold isS at hsp
                rw [Bool.or_eq_true, Bool.or_eq_true, beq_iff_eq, beq_iff_eq, beq_iff_eq] at hsp
                rcases hsp with (h | h) | h
                · rw [h]; exact .inl rfl
                · rw [h]; exact .inr (.inl rfl)
                · rw [h]; exact .inr (.inr rfl)
              obtain ⟨q, qc, b1, b2, b3, b4⟩ := HTn.subs c.toNat hsc
              have nq := neq_some
              rw [if_pos hsp] at hLn
              have hJn : decide (J ≤ n) = true := decide_eq_true (by omega)
              obtain ⟨ti2, I2⟩ := i8
              have hcp := run_copy_row (P := Tryz.prog) wr.drew 82 82 3 5 G J (n - J) (n - J) ⟨q, 0, none⟩ 2 qc cur 5 [.int .u8 94, .int .u8 (subB c.toNat)] Tryz.underlying82 (by rw [I2.hi]; simp [I2.hs]) HC.out.1 (by simp only [List.length_cons, List.length_nil]; show 2 = min 2 (n - J); omega)
                (fun j v hj => by
                  have hjl : j < 2 := (List.getElem?_eq_some_iff.1 hj).1
                  have hj2 : j = 0 ∨ j = 1 := by omega
                  rcases hj2 with rfl | rfl
                  · have : v = .int .u8 94 := by simpa using hj.symm
                    rw [this, World.cell?_drew]; exact b3
                  · have : v = .int .u8 (subB c.toNat) := by simpa using hj.symm
                    rw [this, World.cell?_drew]; exact b4)
                (by have := HC.out.2.1; simp only [List.length_cons, List.length_nil]; omega) (by intro v hv; simp only [List.mem_cons, List.not_mem_nil, or_false] at hv; rcases hv with rfl | rfl <;> rfl)
              simp only [List.length_cons, List.length_nil] at hcp
              have HC3 := HC.out
              have hpb : ([.int .u8 94, .int .u8 (subB c.toNat)] : List Value) = (parB c).map (fun b => Value.int .u8 ((b.toNat : Nat) : Int)) := by
                rcases hsc with h | h | h
                · have hc9 : c = 94 := by apply UInt8.toNat_inj.1; rw [h]; rfl
                  subst hc9; rfl
                · have hc9 : c = 10 := by apply UInt8.toNat_inj.1; rw [h]; rfl
                  subst hc9; rfl
                · have hc9 : c = 34 := by apply UInt8.toNat_inj.1; rw [h]; rfl
                  subst hc9; rfl
              have HPB := Aside0.mk hpb
              clear hpb hsc
              go_wp2
              go_region
              go_wp2
              go_roundg g
              case measure => have := HK.out; omega
              case rel =>
                have hlen2 : (parB c).length = 2 := by rw [parB_len, if_pos hsp]
                have hJ2 := HJ.out
                have hrp := row_put cur (parT (s.data.toList.take k)) (parB c) n HC3.2.1 (fun x hx => HC3.2.2 x (by rw [← hJ2]; exact hx)) (by rw [hJ2, hlen2]; omega)
                rw [hJ2, hlen2, ← HPB.out] at hrp
                simp only [List.append_assoc, List.cons_append, List.nil_append] at hrp
                refine ⟨k + 1, _, by first | rfl | (go_num; done) | (congr 1; omega), by rw [HTk.out, parT_snoc, List.length_append, hJ2, hlen2]; rfl, by omega, ⟨by have := HK.out; omega⟩, ⟨setRow_heap _ _ _ _ _ _ HC3.1, hrp.1, fun x hx => ?_⟩, ⟨below_setRow (below_drew HB.out) (by have := HGE.out; omega) _⟩⟩
                rw [HTk.out, parT_snoc] at hx ⊢
                exact hrp.2 x hx
            · have hcell : wr.cell? ⟨p, c.toNat, none⟩ = some (.slice none 0 0) := by
                rw [Bool.not_eq_true] at hsp
                unfold isS at hsp
                simp only [Bool.or_eq_false_iff, beq_eq_false_iff_ne] at hsp
                have ne : ∀ n : Nat, n < 256 → c ≠ n.toUInt8 → c.toNat ≠ n := fun n hn h e => h (by apply UInt8.toNat_inj.1; rw [e]; simp; omega)
                exact HTn.nils c.toNat hc2 (ne 94 (by omega) hsp.1.1) (ne 10 (by omega) hsp.1.2) (ne 34 (by omega) hsp.2)
              have nq := neq_nil
              rw [if_neg hsp] at hLn
              have hJn : decide (J < n) = true := decide_eq_true (by omega)
              have hold : wr.cell? ⟨G, J, none⟩ = some (cur[J]'(by have := HC.out.2.1; omega)) := by
                rw [cell_blk HC.out.1, Array.getElem?_eq_getElem]
              have hfz := froz_blk HC.out.1 J
              go_wp2
              go_roundg g
              case measure => have := HK.out; omega
              case rel =>
                have hlen1 : parB c = [c] := parB_no c (by rw [Bool.not_eq_true] at hsp; exact hsp)
                have hJ2 := HJ.out
                have hrs := row_set cur (parT (s.data.toList.take k)) c n HC.out.2.1 (fun x hx => HC.out.2.2 x (by rw [← hJ2]; exact hx)) (by rw [hJ2]; omega)
                rw [hJ2] at hrs
                refine ⟨k + 1, _, by first | rfl | (go_num; done) | (congr 1; omega), by rw [HTk.out, parT_snoc, hlen1, List.length_append, hJ2]; rfl, by omega, ⟨by have := HK.out; omega⟩, ⟨blkSet HC.out.1 _ _, hrs.1, fun x hx => ?_⟩, ⟨Below.setCell HB.out (by have := HGE.out; show _ ≤ G; omega) _⟩⟩
                rw [HTk.out, parT_snoc, hlen1] at hx ⊢
                exact hrs.2 x hx
          · have hd3 : decide (k < s.size) = false := decide_eq_false hlt2
            have hks : k = s.size := by omega
            subst hks
            have htk2 : s.data.toList.take s.size = s.data.toList := List.take_of_length_le (by simp)
            rw [htk2] at HC ⊢
            have hcv := run_convert_bytes_back (P := Tryz.prog) wr 82 9 5 ⟨G, 0, none⟩ n (parT s.data.toList) Tryz.underlying82 Tryz.underlying5 Tryz.underlying9 (fun j hj => by
              have ha : (⟨G, 0, none⟩ : Addr).add j = ⟨G, j, none⟩ := by
                unfold Addr.add
                split
                · rename_i h8; subst h8; rfl
                · simp
              rw [ha, cell_blk HC.out.1, HC.out.2.2 j hj, List.getD_eq_getElem?_getD, List.getElem?_eq_getElem hj]; rfl)
            rw [HN.out] at hcv
            go_wp2
            go_ret
            exact ⟨rfl, HW.out.trans (HB.out.mono HW.out.size)⟩
      · rw [Bool.not_eq_true] at hany
        rw [hany]
        have hno := parT_no _ hany
        go_wp2
        go_ret
        exact ⟨by rw [hno, ba_of]; rfl, HW.out⟩
theorem bsr_walk (p : Nat) (s : ByteArray) (w : World) (hT : RT p w) (hs : s.size ≤ 2000000000) :
    Calls Tryz.prog 167 #[.pointer (some ⟨p, 0, none⟩), .string s] w fun e w' => e = .returned (.string ⟨(parT s.data.toList).toArray⟩) ∧ Below w.heap.size w w' := by
  by_cases h : s.size < 24
  · exact bsr_short p s w hT h
  · exact bsr_long p s w hT h hs
end Go.Proofs.YtdojmdbaiddkgaaGreatDoor.Print
end
section
set_option linter.unusedVariables false
set_option linter.unusedSimpArgs false
namespace Go.Proofs.YtdojmdbaiddkgaaGreatDoor.Print
open Go.RowKit Go.Proofs.YtdojmdbaiddkgaaGreatDoorW.PrintWords Go.Proofs.YtdojmdbaiddkgaaGreatDoorW.PrintLast Go.Proofs.YtdojmdbaiddkgaaGreatDoorW.PrintMore
/-- The six strings of a replacer. -/
structure Six (b : Nat) (w : World) : Prop where
  h0 : w.cell? ⟨b, 0, none⟩ = some (.string ⟨#[94]⟩)
  h1 : w.cell? ⟨b, 1, none⟩ = some (.string ⟨#[94, 94]⟩)
  h2 : w.cell? ⟨b, 2, none⟩ = some (.string ⟨#[10]⟩)
  h3 : w.cell? ⟨b, 3, none⟩ = some (.string ⟨#[94, 110]⟩)
  h4 : w.cell? ⟨b, 4, none⟩ = some (.string ⟨#[34]⟩)
  h5 : w.cell? ⟨b, 5, none⟩ = some (.string ⟨#[94, 39]⟩)
/-- A new replacer: not built yet. -/
structure RN (p c cap : Nat) (w : World) : Prop where
  blk : w.heap[p]? = some (.cells #[.int .u32 0, .int .i32 0, .int .u32 0, .nilIface, .slice (some ⟨c, 0, none⟩) 6 cap] 160 (0, 0))
  six : Six c w
theorem allocAt (w : World) (o : Obj) : (w.alloc o).heap[w.heap.size]? = some o := by simp only [World.alloc, Array.getElem?_push_size]
theorem new_walk (b : Nat) (w : World) (h : Six b w) :
    Calls Tryz.prog 80 #[.slice (some ⟨b, 0, none⟩) 6 6] w fun e w' => ∃ p c cap : Nat, e = .returned (.pointer (some ⟨p, 0, none⟩)) ∧ RN p c cap w' ∧ w.heap.size ≤ c ∧ c < p ∧ Below w.heap.size w w' := by
  obtain ⟨h0, h1, h2, h3, h4, h5⟩ := h
  go_enter Tryz.func80, Tryz.ntmps80
  go_wp2
  go_ret
  refine ⟨w.heap.size + 1, w.heap.size, (Question.appendCap 6 0 9).cut (w.tape w.drawn (Question.appendCap 6 0 9)), by first | rfl | simp, ⟨?_, ?_⟩, Nat.le_refl _, Nat.lt_succ_self _, ?_⟩
  · have := allocAt (w.alloc (.cells (#[.string ⟨#[94]⟩, .string ⟨#[94, 94]⟩, .string ⟨#[10]⟩, .string ⟨#[94, 110]⟩, .string ⟨#[34]⟩, .string ⟨#[94, 39]⟩] ++ Builtin.zeroCells #[.string ⟨#[]⟩] ((Question.appendCap 6 0 9).cut (w.tape w.drawn (Question.appendCap 6 0 9)) - 6)) 9)) (.cells #[.int .u32 0, .int .i32 0, .int .u32 0, .nilIface, .slice (some ⟨w.heap.size, 0, none⟩) 6 ((Question.appendCap 6 0 9).cut (w.tape w.drawn (Question.appendCap 6 0 9)))] 160)
    rw [World.size_alloc] at this
    exact this
  · constructor
    all_goals
      rw [World.cell?_drew, World.cell?_alloc_lt _ _ _ (by simp), World.cell?_alloc_at _ _ _ _ rfl, Array.getElem?_append_left (by simp)]
      rfl
  · exact below_drew (((Below.refl _ _).alloc (Nat.le_refl _) _).alloc (by simp) _)
end Go.Proofs.YtdojmdbaiddkgaaGreatDoor.Print
end
section
set_option linter.unusedVariables false
set_option linter.unusedSimpArgs false
namespace Go.Proofs.YtdojmdbaiddkgaaGreatDoor.Print
open Go.RowKit Go.Proofs.YtdojmdbaiddkgaaGreatDoorW.PrintWords Go.Proofs.YtdojmdbaiddkgaaGreatDoorW.PrintLast Go.Proofs.YtdojmdbaiddkgaaGreatDoorW.PrintMore
theorem mk3 (w : World) : (Instr.makeSlice 54 (.int .i64 0) (.int .i64 3)).run Tryz.prog w = .ok (.slice (some ⟨w.heap.size, 0, none⟩) 0 3) (w.alloc (.cells #[.string ⟨#[]⟩, .string ⟨#[]⟩, .string ⟨#[]⟩] 9)) := by kernel_rfl
theorem size156 : (Tryz.prog.info? 179).map (·.size) = some 257 := by kernel_rfl
theorem zsize : Tryz.zeroCells179.size = 257 := by kernel_rfl
theorem zone : Tryz.zeroCells179.all (·.oneCell') = true := by kernel_rfl
/-- The table, before a byte is laid. -/
noncomputable def T0 (g : Nat) : Array Value := (Tryz.zeroCells179.toList.set 256 (.slice (some ⟨g, 0, none⟩) 0 3)).toArray
theorem T0_size (g : Nat) : (T0 g).size = 257 := by unfold T0; rw [List.size_toArray, List.length_set, Array.length_toList]; exact zsize
theorem T0_one (g : Nat) : (T0 g).all (·.oneCell') = true := by
  unfold T0
  rw [List.all_toArray, List.all_eq_true]
  intro v hv
  rcases List.mem_or_eq_of_mem_set hv with h | rfl
  · have := zone
    rw [← Array.all_toList, List.all_eq_true] at this
    exact this v h
  · rfl
theorem zrep : Tryz.zeroCells179 = Array.replicate 257 (.slice none 0 0) := by kernel_rfl
theorem eql_nil (w : World) : (binOp .eql 82 (.slice none 0 0) (.slice none 0 0)).run Tryz.prog w = .ok (.bool true) w := by kernel_rfl
theorem T0_nil (g c : Nat) (hc : c < 256) : (T0 g)[c]? = some (.slice none 0 0) := by
  unfold T0
  rw [List.getElem?_toArray, List.getElem?_set_ne (by omega), Array.getElem?_toList]
  rw [zrep, Array.getElem?_replicate, if_pos (by omega)]
theorem T0_list (g : Nat) : (T0 g)[256]? = some (.slice (some ⟨g, 0, none⟩) 0 3) := by
  unfold T0
  rw [List.getElem?_toArray, List.getElem?_set_self (by rw [Array.length_toList, zsize]; omega)]
theorem put156 (w : World) (g : Nat) : (storeCells ⟨w.heap.size, 0, none⟩ (Tryz.zeroCells179.toList.set 256 (.slice (some ⟨g, 0, none⟩) 0 3)) 0).run Tryz.prog (w.alloc (.cells Tryz.zeroCells179 179)) = .ok () (w.alloc (.cells (T0 g) 179)) :=
  run_storeCells_new w 179 _ (T0 g) (by rw [size156, T0_size]) (by rw [zsize, T0_size]) (T0_one g)
theorem cv_byte (b : UInt8) (w : World) : (convert 82 9 (.slice (some ⟨w.heap.size, 0, none⟩) 1 1)).run Tryz.prog (w.alloc (.cells #[.int .u8 ((b.toNat : Nat) : Int)] 5)) = .ok (.string ⟨#[b]⟩) (w.alloc (.cells #[.int .u8 ((b.toNat : Nat) : Int)] 5)) :=
  run_convert_bytes_back (P := Tryz.prog) _ 82 9 5 ⟨w.heap.size, 0, none⟩ 1 [b] Tryz.underlying82 Tryz.underlying5 Tryz.underlying9 (fun j hj => by
    have hj0 : j = 0 := by simpa using hj
    subst hj0
    show (w.alloc _).cell? ⟨w.heap.size, 0, none⟩ = _
    rw [World.cell?_alloc_at _ _ _ _ rfl]; rfl)
/-- The bytes that are laid, in their order. -/
def ob (k : Nat) : Nat := if k = 0 then 34 else if k = 1 then 10 else 94
/-- The table of replacements while it is filled: so many bytes are laid. -/
structure Stage (w0 : World) (T Q : Nat) (k : Nat) (w : World) : Prop where
  bel : Below w0.heap.size w0 w
  tb : ∃ tc : Array Value, w.heap[T]? = some (.cells tc 9 (0, 0)) ∧ tc.size = 3 ∧ ∀ j, j < k → tc[j]? = some (.string ⟨#[(ob j).toUInt8]⟩)
  qb : ∃ qc : Array Value, w.heap[Q]? = some (.cells qc 179 (0, 0)) ∧ qc.size = 257 ∧ qc[256]? = some (.slice (some ⟨T, 0, none⟩) k 3) ∧
    (∀ c, c < 256 → (∀ j, j < k → c ≠ ob j) → qc[c]? = some (.slice none 0 0)) ∧
    (∀ j, j < k → ∃ q cap, qc[ob j]? = some (.slice (some ⟨q, 0, none⟩) 2 cap) ∧ 2 ≤ cap ∧ q ≠ T ∧ q ≠ Q ∧ w0.heap.size ≤ q ∧ w.cell? ⟨q, 0, none⟩ = some (.int .u8 94) ∧ w.cell? ⟨q, 1, none⟩ = some (.int .u8 (subB (ob j))))
theorem cv_str (s : ByteArray) (w : World) : ∃ w' cap, (convert 9 82 (.string s)).run Tryz.prog w = .ok (.slice (some ⟨w.heap.size, 0, none⟩) s.size cap) w' ∧ Below w.heap.size w w' ∧ s.size ≤ cap ∧ (∀ j, j < s.size → w'.cell? ⟨w.heap.size, j, none⟩ = some (.int .u8 ((s.data.toList.getD j 0).toNat : Nat))) := by
  refine ⟨Lib.bytesWorld w 5 s, _, Lib.run_convert_string_bytes w 9 82 5 s Tryz.underlying9 Tryz.underlying82 Tryz.underlying5, ?_, grownCap_ge _ _ _ _, fun j hj => Lib.bytesWorld_cell w 5 s j hj⟩
  refine ⟨?_, ?_, ?_, ?_, fun j hj => Lib.bytesWorld_at_old w 5 s j hj⟩
  · unfold Lib.bytesWorld World.freeze; split <;> rfl
  · unfold Lib.bytesWorld World.freeze; split <;> rfl
  · unfold Lib.bytesWorld World.freeze; split <;> rfl
  · rw [Lib.bytesWorld_size]; omega
theorem blkSetO {w : World} {g h : Nat} {j : Nat} {x : Option Obj} (hx : w.heap[g]? = x) (hne : g ≠ h) (u : Value) : (w.setCell ⟨h, j, none⟩ u).heap[g]? = x := by
  rw [Below.heap_setCell _ _ _ _ hne]; exact hx
theorem blkAl {w : World} {g : Nat} {x : Obj} (hx : w.heap[g]? = some x) (o : Obj) : (w.alloc o).heap[g]? = some x := by
  rw [Below.heap_alloc _ _ _ (Array.getElem?_eq_some_iff.1 hx).1]; exact hx
theorem ob_lt (k : Nat) : ob k < 256 := by unfold ob; split <;> (try split) <;> omega
theorem ob_ne {j k : Nat} (h : j < k) (hk : k < 3) : ob j ≠ ob k := by
  have : k = 1 ∨ k = 2 := by omega
  rcases this with rfl | rfl
  · obtain rfl : j = 0 := by omega
    decide
  · have : j = 0 ∨ j = 1 := by omega
    rcases this with rfl | rfl <;> decide
/-- The world in which a round's replacement is made. -/
def midW (T Q k : Nat) (o : UInt8) (wr : World) : World := (((wr.setCell ⟨T, k, none⟩ (.string ⟨#[o]⟩)).setCell ⟨Q, 256, none⟩ (.slice (some ⟨T, 0, none⟩) (k + 1) 3)).alloc (.cells #[.int .u8 ((o.toNat : Nat) : Int)] 5)).alloc (.cells #[.string ⟨#[o]⟩] 9)
theorem stage_step {w0 wr : World} {T Q k : Nat} (hS : Stage w0 T Q k wr) (hk : k < 3) (hT : w0.heap.size ≤ T) (hQ : w0.heap.size ≤ Q) (hTQ : T ≠ Q) {w' : World} {cap : Nat} (o : UInt8) (ho : o = (ob k).toUInt8)
    (hB : Below (midW T Q k o wr).heap.size (midW T Q k o wr) w') (hc : 2 ≤ cap)
    (c0 : w'.cell? ⟨(midW T Q k o wr).heap.size, 0, none⟩ = some (.int .u8 94)) (c1 : w'.cell? ⟨(midW T Q k o wr).heap.size, 1, none⟩ = some (.int .u8 (subB (ob k)))) :
    Stage w0 T Q (k + 1) (w'.setCell ⟨Q, ob k, none⟩ (.slice (some ⟨(midW T Q k o wr).heap.size, 0, none⟩) 2 cap)) := by
  obtain ⟨hb, ⟨tc, ht1, ht2, ht3⟩, ⟨qc, hq1, hq2, hq3, hq4, hq5⟩⟩ := hS
  have hTl : T < wr.heap.size := (Array.getElem?_eq_some_iff.1 ht1).1
  have hQl : Q < wr.heap.size := (Array.getElem?_eq_some_iff.1 hq1).1
  have hms : (midW T Q k o wr).heap.size = wr.heap.size + 2 := by unfold midW; simp
  have hw0 := hb.size
  have hobl := ob_lt k
  have bm : Below w0.heap.size w0 (midW T Q k o wr) :=
    (((hb.setCell (p := ⟨T, k, none⟩) hT _).setCell (p := ⟨Q, 256, none⟩) hQ _).alloc (by simp; omega) _).alloc (by simp; omega) _
  have bw : Below w0.heap.size w0 w' := bm.trans (hB.mono (by omega))
  have mt : (midW T Q k o wr).heap[T]? = some (.cells (tc.setIfInBounds k (.string ⟨#[o]⟩)) 9 (0, 0)) :=
    blkAl (blkAl (blkSetO (blkSet ht1 k _) hTQ _) _) _
  have mq : (midW T Q k o wr).heap[Q]? = some (.cells (qc.setIfInBounds 256 (.slice (some ⟨T, 0, none⟩) (k + 1) 3)) 179 (0, 0)) :=
    blkAl (blkAl (blkSet (blkSetO hq1 (Ne.symm hTQ) _) 256 _) _) _
  have wt := (hB.block T (by omega)).trans mt
  have wq := (hB.block Q (by omega)).trans mq
  refine ⟨bw.setCell (p := ⟨Q, ob k, none⟩) hQ _, ⟨_, blkSetO wt hTQ _, by rw [Array.size_setIfInBounds]; exact ht2, fun j hj => ?_⟩, ⟨_, blkSet wq _ _, by rw [Array.size_setIfInBounds, Array.size_setIfInBounds]; exact hq2, ?_, fun c hc' hne => ?_, fun j hj => ?_⟩⟩
  · by_cases h : j = k
    · subst h; rw [Array.getElem?_setIfInBounds_self_of_lt (by omega), ho]
    · rw [Array.getElem?_setIfInBounds_ne (by omega)]; exact ht3 j (by omega)
  · rw [Array.getElem?_setIfInBounds_ne (by omega), Array.getElem?_setIfInBounds_self_of_lt (by omega)]
  · have hck := hne k (by omega)
    rw [Array.getElem?_setIfInBounds_ne (by omega), Array.getElem?_setIfInBounds_ne (by omega)]
    exact hq4 c hc' (fun j hj => hne j (by omega))
  · by_cases h : j = k
    · subst h
      refine ⟨_, cap, by rw [Array.getElem?_setIfInBounds_self_of_lt (by rw [Array.size_setIfInBounds]; omega)], hc, by omega, by omega, by omega, ?_, ?_⟩
      · rw [World.cell?_setCell_other _ _ _ _ (by intro e; have := congrArg Addr.block e; simp at this; omega)]; exact c0
      · rw [World.cell?_setCell_other _ _ _ _ (by intro e; have := congrArg Addr.block e; simp at this; omega)]; exact c1
    · have hjk : j < k := by omega
      obtain ⟨q, cap', a1, a2, a3, a4, a7, a5, a6⟩ := hq5 j hjk
      have hql : q < wr.heap.size := cellLt a5
      have hob := ob_ne hjk hk
      have hobj := ob_lt j
      refine ⟨q, cap', by rw [Array.getElem?_setIfInBounds_ne (Ne.symm hob), Array.getElem?_setIfInBounds_ne (by omega)]; exact a1, a2, a3, a4, a7, ?_, ?_⟩
      all_goals
        rw [World.cell?_setCell_other _ _ _ _ (by intro e; have := congrArg Addr.block e; simp at this; omega)]
        refine (hB.cell (p := ⟨q, _, none⟩) (by show q < _; omega)).trans ?_
        unfold midW
        rw [World.cell?_alloc_lt _ _ _ (by simp; omega), World.cell?_alloc_lt _ _ _ (by simp; omega), World.cell?_setCell_other _ _ _ _ (by intro e; have := congrArg Addr.block e; simp at this; omega), World.cell?_setCell_other _ _ _ _ (by intro e; have := congrArg Addr.block e; simp at this; omega)]
        first | exact a5 | exact a6
/-- The table lies in blocks from a place on: what happens below it leaves it. -/
def RTA (B p : Nat) (w : World) : Prop := ∀ w' : World, (∀ k, B ≤ k → w'.heap[k]? = w.heap[k]?) → RT p w'
theorem RTA.rt {B p : Nat} {w : World} (h : RTA B p w) : RT p w := h w (fun _ _ => rfl)
theorem RTA.keep {B p : Nat} {w w' : World} (h : RTA B p w) (hk : ∀ k, B ≤ k → w'.heap[k]? = w.heap[k]?) : RTA B p w' := fun w2 h2 => h w2 (fun k hb => (h2 k hb).trans (hk k hb))
theorem RTA.set {B p : Nat} {w : World} (h : RTA B p w) (a : Addr) (ha : a.block < B) (u : Value) : RTA B p (w.setCell a u) := h.keep (fun k hk => Below.heap_setCell _ _ _ _ (by omega))
theorem RTA.drew {B p : Nat} {w : World} (h : RTA B p w) : RTA B p w.drew := h.keep (fun _ _ => rfl)
theorem rt_of_stage {w0 w : World} {T Q : Nat} (hT : w0.heap.size ≤ T) (hQ : w0.heap.size ≤ Q) (h : Stage w0 T Q 3 w) : RTA w0.heap.size Q w := by
  intro w' hk
  obtain ⟨hb, ⟨tc, ht1, ht2, ht3⟩, ⟨qc, hq1, hq2, hq3, hq4, hq5⟩⟩ := h
  rw [← hk T hT] at ht1
  rw [← hk Q hQ] at hq1
  refine ⟨fun c hc h1 h2 h3 => ?_, fun c hc => ?_, ⟨T, 3, by rw [cell_blk hq1]; exact hq3, Nat.le_refl _, by rw [cell_blk ht1]; exact ht3 0 (by omega), by rw [cell_blk ht1]; exact ht3 1 (by omega), by rw [cell_blk ht1]; exact ht3 2 (by omega)⟩⟩
  · rw [cell_blk hq1]
    refine hq4 c hc (fun j hj => ?_)
    have : j = 0 ∨ j = 1 ∨ j = 2 := by omega
    rcases this with rfl | rfl | rfl
    · exact h3
    · exact h2
    · exact h1
  · have : ∃ j, j < 3 ∧ c = ob j := by
      rcases hc with h | h | h
      · exact ⟨2, by omega, h⟩
      · exact ⟨1, by omega, h⟩
      · exact ⟨0, by omega, h⟩
    obtain ⟨j, hj, rfl⟩ := this
    obtain ⟨q, cap, a1, a2, a3, a4, a7, a5, a6⟩ := hq5 j hj
    exact ⟨q, cap, by rw [cell_blk hq1]; exact a1, a2, (World.cell?_of_block (w := w) (hk q a7)).trans a5, (World.cell?_of_block (w := w) (hk q a7)).trans a6⟩
theorem stage_zero (w : World) : Stage w w.heap.size (w.heap.size + 1) 0 ((w.alloc (.cells #[.string ⟨#[]⟩, .string ⟨#[]⟩, .string ⟨#[]⟩] 9)).alloc (.cells (T0 w.heap.size) 179)) := by
  have e1 := allocAt (w.alloc (.cells #[.string ⟨#[]⟩, .string ⟨#[]⟩, .string ⟨#[]⟩] 9)) (.cells (T0 w.heap.size) 179)
  rw [World.size_alloc] at e1
  refine ⟨((Below.refl _ _).alloc (Nat.le_refl _) _).alloc (by simp) _, ⟨_, blkAl (allocAt w _) _, rfl, fun j hj => by omega⟩, ⟨_, e1, T0_size _, T0_list _, fun c hc _ => T0_nil _ c hc, fun j hj => by omega⟩⟩
set_option maxHeartbeats 4000000 in
set_option maxRecDepth 100000 in
theorem build_walk (p c cap : Nat) (w : World) (hold : w.cell? ⟨p, 4, none⟩ = some (.slice (some ⟨c, 0, none⟩) 6 cap)) (h : Six c w) :
    Calls Tryz.prog 106 #[.pointer (some ⟨p, 0, none⟩)] w fun e w' => ∃ q : Nat, e = .returned (.iface 180 (.pointer (some ⟨q, 0, none⟩))) ∧ RTA w.heap.size q w' ∧ Below w.heap.size w w' := by
  obtain ⟨h0, h1, h2, h3, h4, h5⟩ := h
  have hmk := mk3
  have hnn := neq_nil
  have hput := put156 (w.alloc (.cells #[.string ⟨#[]⟩, .string ⟨#[]⟩, .string ⟨#[]⟩] 9)) w.heap.size
  rw [World.size_alloc] at hput
  go_enter Tryz.func106, Tryz.ntmps106
  go_wp2
  refine wp_loop_rounds 4 ?_
  rw [rounds_succ]
  go_wp2
  rw [rounds_succ]
  go_wp2
  rw [rounds_succ]
  go_wp2
  rw [rounds_succ]
  go_wp2
  have heq := eql_nil
  have hcl : c < w.heap.size := cellLt h0
  have HS0 := Aside0.mk (stage_zero w)
  obtain ⟨T, hT⟩ : ∃ T, T = w.heap.size := ⟨_, rfl⟩
  obtain ⟨Q, hQ⟩ : ∃ Q, Q = T + 1 := ⟨_, rfl⟩
  have HT := Aside0.mk hT
  have HQ := Aside0.mk hQ
  rw [← hT, ← hQ] at HS0 ⊢
  clear hT hQ hput hmk hold hnn
  go_loopg [12, 13, 14] 4 (fun g v12 v13 v14 wr => ∃ k : Nat, v12 = .int .i64 (4 - 2 * (k : Int)) ∧ k ≤ 3 ∧ Aside0 (3 ≤ k + g) ∧ Aside0 (Stage w T Q k wr))
  case atStart => exact ⟨0, rfl, by omega, ⟨by omega⟩, HS0⟩
  case round =>
    obtain ⟨k, rfl, hk, HK, HSt⟩ := hrel
    obtain ⟨hb, ⟨tc, ht1, ht2, ht3⟩, ⟨qc, hq1, hq2, hq3, hq4, hq5⟩⟩ := HSt.out
    rcases Nat.lt_or_ge k 3 with hlt | hge
    · cases gk with
      | zero => exfalso; have := HK.out; omega
      | succ g =>
      have qt : wr.cell? ⟨Q, 256, none⟩ = some (.slice (some ⟨T, 0, none⟩) k 3) := by rw [cell_blk hq1]; exact hq3
      have qn : wr.cell? ⟨Q, ob k, none⟩ = some (.slice none 0 0) := by
        rw [cell_blk hq1]; refine hq4 _ (by unfold ob; split <;> (try split) <;> omega) (fun j hj => ?_)
        unfold ob
        have : k = 0 ∨ k = 1 ∨ k = 2 := by omega
        rcases this with rfl | rfl | rfl
        · omega
        · obtain rfl : j = 0 := by omega
          decide
        · have : j = 0 ∨ j = 1 := by omega
          rcases this with rfl | rfl <;> decide
      have fz : ∀ j, wr.frozen? ⟨Q, j, none⟩ = false := fun j => froz_blk hq1 j
      have ft : ∀ j, wr.frozen? ⟨T, j, none⟩ = false := fun j => froz_blk ht1 j
      have htk : ∃ v, wr.cell? ⟨T, k, none⟩ = some v := ⟨tc[k]'(by omega), by rw [cell_blk ht1, Array.getElem?_eq_getElem]⟩
      obtain ⟨tv, htk⟩ := htk
      have g0 := (hb.cell (p := ⟨c, 0, none⟩) hcl).trans h0
      have g1 := (hb.cell (p := ⟨c, 1, none⟩) hcl).trans h1
      have g2 := (hb.cell (p := ⟨c, 2, none⟩) hcl).trans h2
      have g3 := (hb.cell (p := ⟨c, 3, none⟩) hcl).trans h3
      have g4 := (hb.cell (p := ⟨c, 4, none⟩) hcl).trans h4
      have g5 := (hb.cell (p := ⟨c, 5, none⟩) hcl).trans h5
      have hTl : T < wr.heap.size := cellLt htk
      have hQl : Q < wr.heap.size := cellLt qt
      clear hb ht1 ht2 ht3 hq1 hq2 hq3 hq4 hq5 h0 h1 h2 h3 h4 h5
      have hk3 : k = 0 ∨ k = 1 ∨ k = 2 := by omega
      rcases hk3 with rfl | rfl | rfl
      · have hz : ob 0 = 34 := rfl
        rw [hz] at qn
        clear hz
        have xo : (⟨#[34]⟩ : ByteArray)[0]'(by decide) = 34 := rfl
        have cv := cv_byte 34
        rw [show (((34 : UInt8).toNat : Nat) : Int) = 34 from rfl] at cv
        have yo : (34 : UInt8).toNat = 34 := rfl
        obtain ⟨w', cp, hrun, HB', hcp, hcl'⟩ := cv_str ⟨#[94, 39]⟩ (midW T Q 0 34 wr)
        have HM := Aside0.mk (show (midW T Q 0 34 wr).heap.size = wr.heap.size + 2 by unfold midW; simp)
        have z0 := hcl' 0 (by decide)
        have z1 := hcl' 1 (by decide)
        have qn' : w'.cell? ⟨Q, 34, none⟩ = some (.slice none 0 0) := by
          refine (HB'.cell (p := ⟨Q, 34, none⟩) (by have := HM.out; show Q < _; omega)).trans ?_
          unfold midW
          rw [World.cell?_alloc_lt _ _ _ (by simp; omega), World.cell?_alloc_lt _ _ _ (by simp; omega), World.cell?_setCell_other _ _ _ _ (by simp), World.cell?_setCell_other _ _ _ _ (by intro e; have := congrArg Addr.block e; simp at this; have := HQ.out; omega)]
          exact qn
        have fq' : w'.frozen? ⟨Q, 34, none⟩ = false := by
          refine (HB'.frozen (p := ⟨Q, 34, none⟩) (by have := HM.out; show Q < _; omega)).trans ?_
          unfold midW
          rw [World.frozen?_alloc_past _ _ _ (by simp; omega), World.frozen?_alloc_past _ _ _ (by simp; omega)]
          simp [fz]
        have HFin := Aside0.mk (stage_step HSt.out hlt (by have := HT.out; omega) (by have := HT.out; have := HQ.out; omega) (by have := HQ.out; omega) 34 rfl HB' hcp z0 z1)
        have hrun2 : (convert 9 82 (.string ⟨#[94, 39]⟩)).run Tryz.prog ((((wr.setCell ⟨T, 0, none⟩ (.string ⟨#[34]⟩)).setCell ⟨Q, 256, none⟩ (.slice (some ⟨T, 0, none⟩) 1 3)).alloc (.cells #[.int .u8 34] 5)).alloc (.cells #[.string ⟨#[34]⟩] 9)) = .ok (.slice (some ⟨(midW T Q 0 34 wr).heap.size, 0, none⟩) 2 cp) w' := hrun
        obtain ⟨G, hG⟩ : ∃ G, G = (midW T Q 0 34 wr).heap.size := ⟨_, rfl⟩
        rw [← hG] at hrun2 HFin
        clear hrun HB' hcp hcl' z0 z1 HM hG
        go_wp2
        go_roundg g
        case measure => have := HK.out; omega
        case rel => exact ⟨0 + 1, by first | rfl | (go_num; done), by omega, ⟨by have := HK.out; omega⟩, HFin⟩
      · have hz : ob 1 = 10 := rfl
        rw [hz] at qn
        clear hz
        have xo : (⟨#[10]⟩ : ByteArray)[0]'(by decide) = 10 := rfl
        have cv := cv_byte 10
        rw [show (((10 : UInt8).toNat : Nat) : Int) = 10 from rfl] at cv
        have yo : (10 : UInt8).toNat = 10 := rfl
        obtain ⟨w', cp, hrun, HB', hcp, hcl'⟩ := cv_str ⟨#[94, 110]⟩ (midW T Q 1 10 wr)
        have HM := Aside0.mk (show (midW T Q 1 10 wr).heap.size = wr.heap.size + 2 by unfold midW; simp)
        have z0 := hcl' 0 (by decide)
        have z1 := hcl' 1 (by decide)
        have qn' : w'.cell? ⟨Q, 10, none⟩ = some (.slice none 0 0) := by
          refine (HB'.cell (p := ⟨Q, 10, none⟩) (by have := HM.out; show Q < _; omega)).trans ?_
          unfold midW
          rw [World.cell?_alloc_lt _ _ _ (by simp; omega), World.cell?_alloc_lt _ _ _ (by simp; omega), World.cell?_setCell_other _ _ _ _ (by simp), World.cell?_setCell_other _ _ _ _ (by intro e; have := congrArg Addr.block e; simp at this; have := HQ.out; omega)]
          exact qn
        have fq' : w'.frozen? ⟨Q, 10, none⟩ = false := by
          refine (HB'.frozen (p := ⟨Q, 10, none⟩) (by have := HM.out; show Q < _; omega)).trans ?_
          unfold midW
          rw [World.frozen?_alloc_past _ _ _ (by simp; omega), World.frozen?_alloc_past _ _ _ (by simp; omega)]
          simp [fz]
        have HFin := Aside0.mk (stage_step HSt.out hlt (by have := HT.out; omega) (by have := HT.out; have := HQ.out; omega) (by have := HQ.out; omega) 10 rfl HB' hcp z0 z1)
        have hrun2 : (convert 9 82 (.string ⟨#[94, 110]⟩)).run Tryz.prog ((((wr.setCell ⟨T, 1, none⟩ (.string ⟨#[10]⟩)).setCell ⟨Q, 256, none⟩ (.slice (some ⟨T, 0, none⟩) 2 3)).alloc (.cells #[.int .u8 10] 5)).alloc (.cells #[.string ⟨#[10]⟩] 9)) = .ok (.slice (some ⟨(midW T Q 1 10 wr).heap.size, 0, none⟩) 2 cp) w' := hrun
        obtain ⟨G, hG⟩ : ∃ G, G = (midW T Q 1 10 wr).heap.size := ⟨_, rfl⟩
        rw [← hG] at hrun2 HFin
        clear hrun HB' hcp hcl' z0 z1 HM hG
        go_wp2
        go_roundg g
        case measure => have := HK.out; omega
        case rel => exact ⟨1 + 1, by first | rfl | (go_num; done), by omega, ⟨by have := HK.out; omega⟩, HFin⟩
      · have hz : ob 2 = 94 := rfl
        rw [hz] at qn
        clear hz
        have xo : (⟨#[94]⟩ : ByteArray)[0]'(by decide) = 94 := rfl
        have cv := cv_byte 94
        rw [show (((94 : UInt8).toNat : Nat) : Int) = 94 from rfl] at cv
        have yo : (94 : UInt8).toNat = 94 := rfl
        obtain ⟨w', cp, hrun, HB', hcp, hcl'⟩ := cv_str ⟨#[94, 94]⟩ (midW T Q 2 94 wr)
        have HM := Aside0.mk (show (midW T Q 2 94 wr).heap.size = wr.heap.size + 2 by unfold midW; simp)
        have z0 := hcl' 0 (by decide)
        have z1 := hcl' 1 (by decide)
        have qn' : w'.cell? ⟨Q, 94, none⟩ = some (.slice none 0 0) := by
          refine (HB'.cell (p := ⟨Q, 94, none⟩) (by have := HM.out; show Q < _; omega)).trans ?_
          unfold midW
          rw [World.cell?_alloc_lt _ _ _ (by simp; omega), World.cell?_alloc_lt _ _ _ (by simp; omega), World.cell?_setCell_other _ _ _ _ (by simp), World.cell?_setCell_other _ _ _ _ (by intro e; have := congrArg Addr.block e; simp at this; have := HQ.out; omega)]
          exact qn
        have fq' : w'.frozen? ⟨Q, 94, none⟩ = false := by
          refine (HB'.frozen (p := ⟨Q, 94, none⟩) (by have := HM.out; show Q < _; omega)).trans ?_
          unfold midW
          rw [World.frozen?_alloc_past _ _ _ (by simp; omega), World.frozen?_alloc_past _ _ _ (by simp; omega)]
          simp [fz]
        have HFin := Aside0.mk (stage_step HSt.out hlt (by have := HT.out; omega) (by have := HT.out; have := HQ.out; omega) (by have := HQ.out; omega) 94 rfl HB' hcp z0 z1)
        have hrun2 : (convert 9 82 (.string ⟨#[94, 94]⟩)).run Tryz.prog ((((wr.setCell ⟨T, 2, none⟩ (.string ⟨#[94]⟩)).setCell ⟨Q, 256, none⟩ (.slice (some ⟨T, 0, none⟩) 3 3)).alloc (.cells #[.int .u8 94] 5)).alloc (.cells #[.string ⟨#[94]⟩] 9)) = .ok (.slice (some ⟨(midW T Q 2 94 wr).heap.size, 0, none⟩) 2 cp) w' := hrun
        obtain ⟨G, hG⟩ : ∃ G, G = (midW T Q 2 94 wr).heap.size := ⟨_, rfl⟩
        rw [← hG] at hrun2 HFin
        clear hrun HB' hcp hcl' z0 z1 HM hG
        go_wp2
        go_roundg g
        case measure => have := HK.out; omega
        case rel => exact ⟨2 + 1, by first | rfl | (go_num; done), by omega, ⟨by have := HK.out; omega⟩, HFin⟩
    · have hk3 : k = 3 := by omega
      subst hk3
      go_wp2
      go_ret
      exact ⟨Q, rfl, rt_of_stage (by have := HT.out; omega) (by have := HT.out; have := HQ.out; omega) HSt.out, HSt.out.bel⟩
end Go.Proofs.YtdojmdbaiddkgaaGreatDoor.Print
end
section
set_option linter.unusedVariables false
set_option linter.unusedSimpArgs false
namespace Go.Proofs.YtdojmdbaiddkgaaGreatDoor.Print
open Go.RowKit Go.Proofs.YtdojmdbaiddkgaaGreatDoorW.PrintWords Go.Proofs.YtdojmdbaiddkgaaGreatDoorW.PrintLast Go.Proofs.YtdojmdbaiddkgaaGreatDoorW.PrintMore
theorem on_disable (w : World) : (callFunc 122 #[]).run Tryz.prog w = .ok (.value (.tuple #[])) w := run_call_mark0 Tryz.func122 (by kernel_rfl) (by kernel_rfl) (by kernel_rfl) .disable (by kernel_rfl) w
theorem on_enable (w : World) : (callFunc 124 #[]).run Tryz.prog w = .ok (.value (.tuple #[])) w := run_call_mark0 Tryz.func124 (by kernel_rfl) (by kernel_rfl) (by kernel_rfl) .enable (by kernel_rfl) w
theorem on_acquire (a : Addr) (w : World) : (callFunc 125 #[.pointer (some a)]).run Tryz.prog w = .ok (.value (.tuple #[])) w := run_call_marked Tryz.func125 (by kernel_rfl) (by kernel_rfl) (by kernel_rfl) .acquire (by kernel_rfl) a w
theorem on_releaseMerge (a : Addr) (w : World) : (callFunc 127 #[.pointer (some a)]).run Tryz.prog w = .ok (.value (.tuple #[])) w := run_call_marked Tryz.func127 (by kernel_rfl) (by kernel_rfl) (by kernel_rfl) .releaseMerge (by kernel_rfl) a w
theorem on_store_deferred (a : Addr) (x : Value) (u : FrameMode) (w : World) (hc : w.cell? a = some x) (hz : w.frozen? a = false) :
    CallsD Tryz.prog 113 #[.pointer (some a), .bool true] u w fun e u' w' => u' = u ∧ (e = .returned (.tuple #[]) ∧ w' = w.drew.setCell a (.int .u32 1)) := by
  have hc' : w.drew.cell? a = some x := by go_simp
  have hz' : w.drew.frozen? a = false := by go_simp
  have hst := run_call_store (P := Tryz.prog) Tryz.func118 (by kernel_rfl) (by kernel_rfl) (by kernel_rfl) (by kernel_rfl) (k := .u32) (y := 1) hc' hz'
  go_enter_d Tryz.func113, Tryz.ntmps113
  go_wp2
  go_region_calls
  all_goals (go_end0; exact ⟨rfl, rfl⟩)
set_option maxRecDepth 100000 in
theorem on_lock_in (a : Addr) (w : World) (hc : w.cell? a = some (.int .i32 0)) (hz : w.frozen? a = false) :
    Calls Tryz.prog 116 #[.pointer (some a)] w fun e w' => e = .returned (.tuple #[]) ∧ w' = w.setCell a (.int .i32 1) := by
  have hd := on_disable
  have he := on_enable
  have ha := on_acquire
  have hcas := run_call_cas_hit (P := Tryz.prog) Tryz.func123 (by kernel_rfl) (by kernel_rfl) (by kernel_rfl) .i32 (by kernel_rfl) (y := 1) hc hz
  have hc' : (w.setCell a (.int .i32 1)).cell? a = some (.int .i32 1) := World.cell?_setCell_same w a _ hc
  have hcv := run_convert_to_unsafe (P := Tryz.prog) (src := 195) (dst := 143) Tryz.underlying195 Tryz.underlying143 (by kernel_rfl) hc'
  go_enter Tryz.func116, Tryz.ntmps116
  go_wp2
  first | go_end0 | (simp only [Exit.inBlock, Exit.then]; refine bodyPost_ret (results_none rfl _ _ _) rfl ?_) | refine bodyPost_ret (results_none rfl _ _ _) rfl ?_
  exact ⟨rfl, rfl⟩
theorem on_lock (a : Addr) (w : World) (hc : w.cell? a = some (.int .i32 0)) (hz : w.frozen? a = false) :
    Calls Tryz.prog 111 #[.pointer (some a)] w fun e w' => e = .returned (.tuple #[]) ∧ w' = w.setCell a (.int .i32 1) := by
  go_enter Tryz.func111, Tryz.ntmps111
  go_wp2_with (go_at_call 116; refine (on_lock_in a _ hc hz).mono ?_; rintro e w' ⟨rfl, rfl⟩)
  go_end0
  exact ⟨rfl, rfl⟩
set_option maxRecDepth 100000 in
theorem on_unlock_in (a : Addr) (w : World) (hc : w.cell? a = some (.int .i32 1)) (hz : w.frozen? a = false) :
    Calls Tryz.prog 117 #[.pointer (some a)] w fun e w' => e = .returned (.tuple #[]) ∧ w' = w.setCell a (.int .i32 0) := by
  have hd := on_disable
  have he := on_enable
  have hr := on_releaseMerge
  have hadd := run_call_add (P := Tryz.prog) Tryz.func128 (by kernel_rfl) (by kernel_rfl) (by kernel_rfl) .i32 (by kernel_rfl) (y := -1) (s := 0) hc hz (by simp [go_sem]; rfl)
  have hcv := run_convert_to_unsafe (P := Tryz.prog) (src := 195) (dst := 143) Tryz.underlying195 Tryz.underlying143 (by kernel_rfl) hc
  go_enter Tryz.func117, Tryz.ntmps117
  go_wp2
  go_end0
  exact ⟨rfl, rfl⟩
theorem on_unlock_deferred (a : Addr) (u : FrameMode) (w : World) (hc : w.cell? a = some (.int .i32 1)) (hz : w.frozen? a = false) :
    CallsD Tryz.prog 112 #[.pointer (some a)] u w fun e u' w' => u' = u ∧ (e = .returned (.tuple #[]) ∧ w' = w.setCell a (.int .i32 0)) := by
  go_enter_d Tryz.func112, Tryz.ntmps112
  go_wp2_with (go_at_call 117; refine (on_unlock_in a _ hc hz).mono ?_; rintro e w' ⟨rfl, rfl⟩)
  go_end0
  exact ⟨rfl, rfl⟩
/-- What buildOnce leaves. -/
def OnB (p : Nat) (w : World) (e : Ending) (w' : World) : Prop := ∃ q w1, e = .returned (.tuple #[]) ∧ RTA w.heap.size q w1 ∧ Below w.heap.size w w1 ∧ w' = (w1.setCell ⟨p, 3, none⟩ (.iface 180 (.pointer (some ⟨q, 0, none⟩)))).setCell ⟨p, 4, none⟩ (.slice none 0 0)
set_option maxRecDepth 100000 in
theorem buildOnce_walk (p c cap : Nat) (w : World) (h3 : w.cell? ⟨p, 3, none⟩ = some .nilIface) (h4 : w.cell? ⟨p, 4, none⟩ = some (.slice (some ⟨c, 0, none⟩) 6 cap)) (f3 : w.frozen? ⟨p, 3, none⟩ = false) (f4 : w.frozen? ⟨p, 4, none⟩ = false) (six : Six c w) :
    Calls Tryz.prog 96 #[.pointer (some ⟨p, 0, none⟩)] w (OnB p w) := by
  have hpl : p < w.heap.size := cellLt h3
  have HS := Aside0.mk six
  clear six
  go_enter Tryz.func96, Tryz.ntmps96
  go_wp2_with fail
  go_at_call 106
  refine (build_walk p c cap _ h4 HS.out).mono ?_
  rintro e w1 ⟨q, rfl, hR, hB⟩
  have g3 := (hB.cell (p := ⟨p, 3, none⟩) hpl).trans h3
  have g4 := (hB.cell (p := ⟨p, 4, none⟩) hpl).trans h4
  have e3 := (hB.frozen (p := ⟨p, 3, none⟩) hpl).trans f3
  have e4 := (hB.frozen (p := ⟨p, 4, none⟩) hpl).trans f4
  have HF := Aside0.mk (And.intro hR hB)
  clear hR hB
  go_wp2_with fail
  go_end0
  exact ⟨q, w1, rfl, HF.out.1, HF.out.2, rfl⟩
theorem on_load (a : Addr) (w : World) (h : w.cell? a = some (.int .u32 0)) :
    Calls Tryz.prog 104 #[.pointer (some a)] w fun e w' => e = .returned (.bool false) ∧ w' = w := by
  have hl := run_call_load (P := Tryz.prog) Tryz.func110 (by kernel_rfl) (by kernel_rfl) (by kernel_rfl) .u32 (by kernel_rfl) h
  go_enter Tryz.func104, Tryz.ntmps104
  go_wp2
  go_ret
  exact ⟨rfl, rfl⟩
/-- What the first Do leaves. -/
def OnD (p : Nat) (w : World) (e : Ending) (w' : World) : Prop := ∃ q, e = .returned (.tuple #[]) ∧ RTA w.heap.size q w' ∧ w'.cell? ⟨p, 3, none⟩ = some (.iface 180 (.pointer (some ⟨q, 0, none⟩))) ∧ Below p w w'
theorem oneOff {p i j : Nat} (h : i ≠ j) : (⟨p, i, none⟩ : Addr) ≠ ⟨p, j, none⟩ := fun e => h (congrArg Addr.off e)
set_option maxRecDepth 100000 in
set_option maxHeartbeats 1600000 in
theorem slow_walk (p c cap : Nat) (w : World) (h0 : w.cell? ⟨p, 0, none⟩ = some (.int .u32 0)) (h1 : w.cell? ⟨p, 1, none⟩ = some (.int .i32 0)) (h3 : w.cell? ⟨p, 3, none⟩ = some .nilIface) (h4 : w.cell? ⟨p, 4, none⟩ = some (.slice (some ⟨c, 0, none⟩) 6 cap))
    (fz : ∀ i, w.frozen? ⟨p, i, none⟩ = false) (six : Six c w) (hcp : c < p) :
    Calls Tryz.prog 105 #[.pointer (some ⟨p, 0, none⟩), .func (.func 96) #[.pointer (some ⟨p, 0, none⟩)] #[]] w (OnD p w) := by
  have hpl : p < w.heap.size := cellLt h0
  have g0 : (w.setCell ⟨p, 1, none⟩ (.int .i32 1)).cell? ⟨p, 0, none⟩ = some (.int .u32 0) := (World.cell?_setCell_other _ _ _ _ (oneOff (by omega))).trans h0
  have g3 : (w.setCell ⟨p, 1, none⟩ (.int .i32 1)).cell? ⟨p, 3, none⟩ = some .nilIface := (World.cell?_setCell_other _ _ _ _ (oneOff (by omega))).trans h3
  have g4 : (w.setCell ⟨p, 1, none⟩ (.int .i32 1)).cell? ⟨p, 4, none⟩ = some (.slice (some ⟨c, 0, none⟩) 6 cap) := (World.cell?_setCell_other _ _ _ _ (oneOff (by omega))).trans h4
  have f3 : (w.setCell ⟨p, 1, none⟩ (.int .i32 1)).frozen? ⟨p, 3, none⟩ = false := by simp [fz]
  have f4 : (w.setCell ⟨p, 1, none⟩ (.int .i32 1)).frozen? ⟨p, 4, none⟩ = false := by simp [fz]
  have six1 : Six c (w.setCell ⟨p, 1, none⟩ (.int .i32 1)) := by
    have ne : ∀ i, (⟨p, 1, none⟩ : Addr) ≠ ⟨c, i, none⟩ := fun i e => by have := congrArg Addr.block e; simp at this; omega
    exact ⟨(World.cell?_setCell_other _ _ _ _ (ne _)).trans six.h0, (World.cell?_setCell_other _ _ _ _ (ne _)).trans six.h1, (World.cell?_setCell_other _ _ _ _ (ne _)).trans six.h2, (World.cell?_setCell_other _ _ _ _ (ne _)).trans six.h3, (World.cell?_setCell_other _ _ _ _ (ne _)).trans six.h4, (World.cell?_setCell_other _ _ _ _ (ne _)).trans six.h5⟩
  have HS := Aside0.mk six1
  clear six six1
  have hsz : (w.setCell ⟨p, 1, none⟩ (.int .i32 1)).heap.size = w.heap.size := by simp
  have HZ := Aside0.mk hsz
  clear hsz
  have hnot : ∀ (x : Bool) (w : World), (Op.unary .not (.bool x)).run Tryz.prog w = .ok (.bool (!x)) w := fun _ _ => rfl
  have hz1 := fz 1
  go_enter_defers Tryz.func105, Tryz.ntmps105
  go_wp2_with (first | (go_at_call 111; refine (on_lock ⟨p, 1, none⟩ _ h1 hz1).mono ?_; rintro e w' ⟨rfl, rfl⟩) | (go_at_call 104; refine (on_load ⟨p, 0, none⟩ _ g0).mono ?_; rintro e w' ⟨rfl, rfl⟩))
  go_at_call 96
  refine (buildOnce_walk p c cap _ g3 g4 f3 f4 HS.out).mono ?_
  rintro e w2 ⟨q, w1, rfl, hR, hB, rfl⟩
  have HF := Aside0.mk (And.intro hR hB)
  clear hR hB
  have hpl1 : p < w1.heap.size := by have := HF.out.2.size; have := HZ.out; omega
  have k0 := (HF.out.2.cell (p := ⟨p, 0, none⟩) (by rw [HZ.out]; exact hpl)).trans g0
  have k1 := (HF.out.2.cell (p := ⟨p, 1, none⟩) (by rw [HZ.out]; exact hpl)).trans (World.cell?_setCell_same w ⟨p, 1, none⟩ (.int .i32 1) h1)
  have k3 := (HF.out.2.cell (p := ⟨p, 3, none⟩) (by rw [HZ.out]; exact hpl)).trans g3
  have zf : ∀ i, w1.frozen? ⟨p, i, none⟩ = false := fun i => (HF.out.2.frozen (p := ⟨p, i, none⟩) (by rw [HZ.out]; exact hpl)).trans (by simp [fz])
  go_wp2_with fail
  refine leaves_cons (f := 113) (args := #[.pointer (some ⟨p, 0, none⟩), .bool true]) (by simp) (by simp [go_sem]) ?_
  refine (on_store_deferred ⟨p, 0, none⟩ (.int .u32 0) .returning _ ?_ (by simp [zf])).mono ?_
  · exact (World.cell?_setCell_other _ _ _ _ (oneOff (by omega))).trans ((World.cell?_setCell_other _ _ _ _ (oneOff (by omega))).trans k0)
  rintro e u' w'' ⟨rfl, rfl, rfl⟩
  refine leaves_cons (f := 112) (args := #[.pointer (some ⟨p, 1, none⟩)]) (by simp [settle]) (by simp [go_sem]) ?_
  refine (on_unlock_deferred ⟨p, 1, none⟩ _ _ ?_ (by simp [zf])).mono ?_
  · refine (World.cell?_setCell_other _ _ _ _ (oneOff (by omega))).trans ?_
    rw [World.cell?_drew]
    exact (World.cell?_setCell_other _ _ _ _ (oneOff (by omega))).trans ((World.cell?_setCell_other _ _ _ _ (oneOff (by omega))).trans k1)
  rintro e u' w'' ⟨rfl, rfl, rfl⟩
  have hR := HF.out.1
  rw [HZ.out] at hR
  have hfin : OnD p w (.returned (.tuple #[])) ((((w1.setCell ⟨p, 3, none⟩ (.iface 180 (.pointer (some ⟨q, 0, none⟩)))).setCell ⟨p, 4, none⟩ (.slice none 0 0)).drew.setCell ⟨p, 0, none⟩ (.int .u32 1)).setCell ⟨p, 1, none⟩ (.int .i32 0)) := by
    refine ⟨q, rfl, ((((hR.set ⟨p, 3, none⟩ hpl _).set ⟨p, 4, none⟩ hpl _).drew).set ⟨p, 0, none⟩ hpl _).set ⟨p, 1, none⟩ hpl _, ?_, ?_⟩
    · rw [World.cell?_setCell_other _ _ _ _ (oneOff (by omega)), World.cell?_setCell_other _ _ _ _ (oneOff (by omega)), World.cell?_drew, World.cell?_setCell_other _ _ _ _ (oneOff (by omega))]
      exact World.cell?_setCell_same _ _ _ k3
    · have b0 := ((Below.refl p w).setCell (p := ⟨p, 1, none⟩) (Nat.le_refl _) (.int .i32 1)).trans (HF.out.2.mono (by rw [HZ.out]; omega))
      exact ((((b0.setCell (p := ⟨p, 3, none⟩) (Nat.le_refl _) _).setCell (p := ⟨p, 4, none⟩) (Nat.le_refl _) _).drew).setCell (p := ⟨p, 0, none⟩) (Nat.le_refl _) _).setCell (p := ⟨p, 1, none⟩) (Nat.le_refl _) _
  simp only [Leaves, settle, results, Tryz.results105]
  exact ⟨_, by simp, hfin⟩
set_option maxRecDepth 100000 in
theorem do_walk (p c cap : Nat) (w : World) (h0 : w.cell? ⟨p, 0, none⟩ = some (.int .u32 0)) (h1 : w.cell? ⟨p, 1, none⟩ = some (.int .i32 0)) (h3 : w.cell? ⟨p, 3, none⟩ = some .nilIface) (h4 : w.cell? ⟨p, 4, none⟩ = some (.slice (some ⟨c, 0, none⟩) 6 cap))
    (fz : ∀ i, w.frozen? ⟨p, i, none⟩ = false) (six : Six c w) (hcp : c < p) :
    Calls Tryz.prog 95 #[.pointer (some ⟨p, 0, none⟩), .func (.func 96) #[.pointer (some ⟨p, 0, none⟩)] #[]] w (OnD p w) := by
  have HS := Aside0.mk six
  clear six
  have hnot : ∀ (x : Bool) (w : World), (Op.unary .not (.bool x)).run Tryz.prog w = .ok (.bool (!x)) w := fun _ _ => rfl
  go_enter Tryz.func95, Tryz.ntmps95
  go_wp2_with (go_at_call 104; refine (on_load ⟨p, 0, none⟩ _ h0).mono ?_; rintro e w' ⟨rfl, rfl⟩)
  go_at_call 105
  refine (slow_walk p c cap _ h0 h1 h3 h4 fz HS.out hcp).mono ?_
  rintro e w2 ⟨q, rfl, hR, h8, hB⟩
  have HF := Aside0.mk (And.intro hR (And.intro h8 hB))
  clear hR hB h8
  go_wp2_with fail
  go_end0
  exact ⟨q, rfl, HF.out⟩
theorem meth_Replace (q : Nat) (w : World) : (Go.method 339 180 (.pointer (some ⟨q, 0, none⟩)) "Replace").run Tryz.prog w = .ok (167, .pointer (some ⟨q, 0, none⟩)) w := by kernel_rfl
set_option maxRecDepth 100000 in
theorem repl_walk (p c cap : Nat) (s : ByteArray) (w : World) (h : RN p c cap w) (hcp : c < p) (hs : s.size ≤ 2000000000) :
    Calls Tryz.prog 81 #[.pointer (some ⟨p, 0, none⟩), .string s] w fun e w' => e = .returned (.string ⟨(parT s.data.toList).toArray⟩) ∧ Below p w w' := by
  have h0 : w.cell? ⟨p, 0, none⟩ = some (.int .u32 0) := by rw [cell_blk h.blk]; rfl
  have h1 : w.cell? ⟨p, 1, none⟩ = some (.int .i32 0) := by rw [cell_blk h.blk]; rfl
  have h3 : w.cell? ⟨p, 3, none⟩ = some .nilIface := by rw [cell_blk h.blk]; rfl
  have h4 : w.cell? ⟨p, 4, none⟩ = some (.slice (some ⟨c, 0, none⟩) 6 cap) := by rw [cell_blk h.blk]; rfl
  have fz : ∀ i, w.frozen? ⟨p, i, none⟩ = false := fun i => froz_blk h.blk i
  have HS := Aside0.mk h.six
  have hpl : p < w.heap.size := cellLt h0
  have hmf : ∀ (fn : Fn) (first cap : Array Value) (w : World), (Instr.makeFunc fn first cap).run Tryz.prog w = .ok (.func fn first cap) w := fun _ _ _ _ => rfl
  clear h
  go_enter Tryz.func81, Tryz.ntmps81
  go_wp2_with fail
  go_at_call 95
  refine (do_walk p c cap _ h0 h1 h3 h4 fz HS.out hcp).mono ?_
  rintro e w2 ⟨q, rfl, hR, h8, hB⟩
  have HF := Aside0.mk (And.intro hR hB)
  clear hR hB h0 h1 h3 h4 fz
  have hme := meth_Replace
  go_wp2_with fail
  go_at_call 167
  refine (bsr_walk q s _ HF.out.1.rt hs).mono ?_
  rintro e w3 ⟨rfl, hB3⟩
  have H3 := Aside0.mk hB3
  clear hB3
  go_wp2_with fail
  go_ret
  exact ⟨rfl, HF.out.2.trans (H3.out.mono (by have := HF.out.2.size; omega))⟩
end Go.Proofs.YtdojmdbaiddkgaaGreatDoor.Print
end
section
set_option linter.unusedVariables false
set_option linter.unusedSimpArgs false
namespace Go.Proofs.YtdojmdbaiddkgaaGreatDoor.Print
open Go.RowKit Go.Proofs.YtdojmdbaiddkgaaGreatDoorW.PrintWords Go.Proofs.YtdojmdbaiddkgaaGreatDoorW.PrintLast Go.Proofs.YtdojmdbaiddkgaaGreatDoorW.PrintMore
theorem contains_quo (l : List UInt8) : Lib.containsAny l [58, 59, 44] = l.any quoB := by
  unfold Lib.containsAny
  induction l with
  | nil => rfl
  | cons b t ih =>
    have hge := Lib.indexAny_ge [58, 59, 44] t
    have hc : ([58, 59, 44] : List UInt8).contains b = quoB b := by
      simp only [List.contains, List.elem_cons, List.elem_nil, quoB, Bool.or_false]
      cases b == 58 <;> cases b == 59 <;> cases b == 44 <;> rfl
    rw [List.any_cons, ← ih, Lib.indexAny, hc]
    cases quoB b with
    | true => simp
    | false =>
      simp only [Bool.false_eq_true, if_false, Bool.false_or]
      by_cases hm : Lib.indexAny t [58, 59, 44] = -1
      · rw [hm]; rfl
      · rw [if_neg (by simpa using hm)]
        rw [decide_eq_true (by omega), decide_eq_true (by omega)]
theorem parB_quo (c : UInt8) : (parB c).any quoB = quoB c := by
  by_cases h1 : c = 94
  · subst h1; rfl
  by_cases h2 : c = 10
  · subst h2; rfl
  by_cases h3 : c = 34
  · subst h3; rfl
  unfold parB
  rw [if_neg h1, if_neg h2, if_neg h3]; simp
theorem parT_quo (l : List UInt8) : (parT l).any quoB = l.any quoB := by
  induction l with
  | nil => rfl
  | cons c t ih => rw [parT_cons, List.any_append, List.any_cons, ih, parB_quo]
theorem Param_bad (k : Nat) (s : ByteArray) (z : Int) (hz : z ≠ 0) (w : World) (hG : GG w) (hC : Aside0 (escape_Clean.f k s true = some z)) :
    Calls Tryz.prog 64 #[.string s] w fun e w' => e = .returned (.tuple #[.string ⟨#[]⟩, .int .i64 z]) ∧ Below w.heap.size w w' := by
  have hz1 : (z == 0) = false := beq_eq_false_iff_ne.2 hz
  have hz2 : (z != 0) = true := bne_iff_ne.2 hz
  clear hz
  go_enter Tryz.func64, Tryz.ntmps64
  go_wp2_with (go_at_call 55; refine (escape_Clean.calls k s true z _ hG hC.out).mono ?_; rintro e w1 ⟨rfl, hb1⟩)
  go_ret2
  exact ⟨rfl, hb1⟩
/-- The six strings, as Param lays them. -/
def sixB : Array Value := #[.string ⟨#[94]⟩, .string ⟨#[94, 94]⟩, .string ⟨#[10]⟩, .string ⟨#[94, 110]⟩, .string ⟨#[34]⟩, .string ⟨#[94, 39]⟩]
theorem six_alloc (w : World) : Six w.heap.size (w.alloc (.cells sixB 9)) := by
  constructor <;> (rw [World.cell?_alloc_at _ _ _ _ rfl]; rfl)
set_option maxHeartbeats 8000000 in
set_option maxRecDepth 100000 in
theorem Param_ok (k : Nat) (s : ByteArray) (w : World) (hG : GG w) (hs : s.size ≤ 2000000000) (hC : Aside0 (escape_Clean.f k s true = some 0)) :
    Calls Tryz.prog 64 #[.string s] w fun e w' => e = .returned (.tuple #[.string (parW s), .int .i64 0]) ∧ Below w.heap.size w w' := by
  go_enter Tryz.func64, Tryz.ntmps64
  go_wp2_with (go_at_call 55; refine (escape_Clean.calls k s true 0 _ hG hC.out).mono ?_; rintro e w1 ⟨rfl, hb1⟩; have HB1 := Aside0.mk hb1; clear hb1)
  go_at_call 80
  refine (new_walk w1.heap.size _ (six_alloc w1)).mono ?_
  rintro e w2 ⟨p, c, cap, rfl, hR, hc, hcp, hB2⟩
  have HN := Aside0.mk (And.intro hR (And.intro hc (And.intro hcp hB2)))
  clear hR hc hcp hB2
  go_wp2_with fail
  go_at_call 81
  refine (repl_walk p c cap s _ HN.out.1 HN.out.2.2.1 hs).mono ?_
  rintro e w3 ⟨rfl, hB3⟩
  have H3 : Aside0 (Below w.heap.size w w3) := ⟨by
    have b1 := HB1.out
    have b2 := HN.out.2.2.2
    have hc := HN.out.2.1
    have hcp := HN.out.2.2.1
    have e1 : (w1.alloc (.cells sixB 9)).heap.size = w1.heap.size + 1 := by simp
    have ea : w1.heap.size + 1 ≤ c := by rw [← e1]; exact hc
    refine ((b1.alloc b1.size (.cells sixB 9)).trans (b2.mono (by rw [e1]; have := b1.size; omega))).trans (hB3.mono (by have := b1.size; omega))⟩
  clear hB3
  have hpl := parT_le s.data.toList
  have hsl : s.data.toList.length = s.size := by simp
  have hps : (⟨(parT s.data.toList).toArray⟩ : ByteArray).size = (parT s.data.toList).length := by simp [ByteArray.size]
  have hcf : strings_ContainsAny.f ⟨(parT s.data.toList).toArray⟩ ⟨#[58, 59, 44]⟩ = some (s.data.toList.any quoB) := by
    unfold strings_ContainsAny.f
    rw [if_pos ⟨by rw [hps]; omega, by decide, by decide, by decide⟩]
    show some (Lib.containsAny (parT s.data.toList) [58, 59, 44]) = _
    rw [contains_quo, parT_quo]
  have HC := Aside0.mk hcf
  have HP := Aside0.mk (And.intro hpl (And.intro hsl hps))
  clear hcf hpl hsl hps
  obtain ⟨P, hP⟩ : ∃ P : ByteArray, P = ⟨(parT s.data.toList).toArray⟩ := ⟨_, rfl⟩
  rw [← hP] at HC HP ⊢
  have HPd := Aside0.mk hP
  clear hP
  by_cases hq : s.data.toList.any quoB = true
  · rw [hq] at HC
    have b1 : (9223372036854775807 < 1 + P.size) = False := eq_false (by have := HP.out; omega)
    have b2 : (9223372036854775807 < 1 + P.size + 1) = False := eq_false (by have := HP.out; omega)
    have HQ := Aside0.mk hq
    clear hq
    go_wp2_with (go_at_call 38; refine (strings_ContainsAny.calls _ _ true _ (hG.below H3.out) HC.out).mono ?_; rintro e w4 ⟨rfl, hB4⟩; have H4 := Aside0.mk hB4; clear hB4)
    go_ret2
    refine ⟨?_, H3.out.trans (H4.out.mono H3.out.size)⟩
    have : parW s = ⟨#[34]⟩ ++ P ++ ⟨#[34]⟩ := by
      unfold parW parL
      rw [if_pos HQ.out, HPd.out]
      rfl
    rw [this]; rfl
  · rw [Bool.not_eq_true] at hq
    rw [hq] at HC
    have HQ := Aside0.mk hq
    clear hq
    go_wp2_with (go_at_call 38; refine (strings_ContainsAny.calls _ _ false _ (hG.below H3.out) HC.out).mono ?_; rintro e w4 ⟨rfl, hB4⟩; have H4 := Aside0.mk hB4; clear hB4)
    go_ret2
    refine ⟨?_, H3.out.trans (H4.out.mono H3.out.size)⟩
    have : parW s = P := by
      unfold parW parL
      rw [if_neg (by rw [HQ.out]; simp), HPd.out]
    rw [this]; rfl
theorem escape_Param.calls (k : Nat) (a0 : ByteArray) (r1 : ByteArray) (r2 : Int) (w : World) (hG : GG w) (h : escape_Param.f k a0 = some (r1, r2)) :
    Calls Tryz.prog 64 #[.string a0] w fun e w' => e = .returned (.tuple #[.string r1, .int .i64 r2]) ∧ Below w.heap.size w w' := by
  unfold escape_Param.f at h
  obtain ⟨z, hz, h⟩ := Option.bind_eq_some_iff.1 h
  by_cases h0 : z = 0
  · rw [if_pos h0] at h
    subst h0
    by_cases hs : a0.size ≤ 2000000000
    · rw [if_pos hs] at h
      obtain ⟨rfl, rfl⟩ := Prod.mk.inj (Option.some.inj h)
      exact Param_ok k a0 w hG hs ⟨hz⟩
    · rw [if_neg hs] at h; cases h
  · rw [if_neg h0] at h
    obtain ⟨rfl, rfl⟩ := Prod.mk.inj (Option.some.inj h)
    exact Param_bad k a0 _ h0 w hG ⟨hz⟩
end Go.Proofs.YtdojmdbaiddkgaaGreatDoor.Print
end
section
set_option linter.unusedVariables false
set_option linter.unusedSimpArgs false
namespace Go.Proofs.YtdojmdbaiddkgaaGreatDoor.Print
open Go.RowKit Go.Proofs.YtdojmdbaiddkgaaGreatDoorW.PrintWords Go.Proofs.YtdojmdbaiddkgaaGreatDoorW.PrintLast Go.Proofs.YtdojmdbaiddkgaaGreatDoorW.PrintMore
/-- A parameter's values, each with the byte ahead of it. -/
def valsT : List ByteArray → UInt8 → List UInt8
  | [], _ => []
  | v :: t, b => b :: parL v.data.toList ++ valsT t 44
def parsT : List S77 → List UInt8
  | [] => []
  | p :: t => 59 :: p.f0.data.toList ++ valsT p.f1 61 ++ parsT t
def lineT (nm : ByteArray) (l : List S77) (v : ByteArray) : List UInt8 := nm.data.toList ++ parsT l ++ 58 :: v.data.toList
def cleanAll (k : Nat) (l : List S77) : Bool := l.all fun p => p.f1.all fun x => decide (escape_Clean.f k x true = some 0)
def lineR (nm : ByteArray) (l : List S77) (v : ByteArray) : ByteArray × Int := if 2000 < (lineT nm l v).length then (⟨#[]⟩, 4) else (⟨(lineT nm l v).toArray⟩, 0)
def line_Print.f (k : Nat) (nm : ByteArray) (l : List S77) (v : ByteArray) : Option (ByteArray × Int) :=
  (line_Formed.f k nm l v).bind fun ok => if ok = true then (if cleanAll k l = true ∧ (lineT nm l v).length ≤ 1000000000 then some (lineR nm l v) else none) else some (⟨#[]⟩, 1)
theorem print_bad (k : Nat) (nm : ByteArray) (A : Option Addr) (c : Nat) (l : List S77) (v : ByteArray) (w : World) (hG : GG w) (hr : Kd.C k77 w A l.length l) (hc : l.length ≤ c) (h : line_Formed.f k nm l v = some false) :
    Calls Tryz.prog 36 #[.agg #[.string nm, .slice A l.length c, .string v]] w fun e w' => e = .returned (.tuple #[.string ⟨#[]⟩, .int .i64 1]) ∧ Below w.heap.size w w' := by
  have H := Aside0.mk h
  have hnot : ∀ (x : Bool) (w : World), (Op.unary .not (.bool x)).run Tryz.prog w = .ok (.bool (!x)) w := fun _ _ => rfl
  clear h
  go_enter Tryz.func36, Tryz.ntmps36
  go_wp2_with fail
  go_at_call 45
  refine (line_Formed.calls k nm A c l v false _ (hG.alloc _) (Kd.C_below hr (below_alloc (Below.refl _ _) _)) hc H.out).mono ?_
  rintro e w1 ⟨rfl, hB⟩
  have HB := Aside0.mk ((below_alloc (Below.refl _ _) _).trans (hB.mono (by simp)))
  clear hB
  go_wp2_with fail
  go_ret2
  exact ⟨rfl, HB.out⟩
theorem parL_len (l : List UInt8) : l.length ≤ (parL l).length := by
  have h : l.length ≤ (parT l).length := by
    induction l with
    | nil => simp [parT]
    | cons c t ih =>
      rw [parT_cons, List.length_append, List.length_cons]
      have : 1 ≤ (parB c).length := by unfold parB; split <;> (try split) <;> (try split) <;> simp
      omega
  unfold parL; split
  · simp; omega
  · exact h
theorem valsT_at (l : List ByteArray) (b : UInt8) (i : Nat) (hi : i < l.length) : valsT (l.drop i) b = b :: parL l[i].data.toList ++ valsT (l.drop (i + 1)) 44 := by
  rw [List.drop_eq_getElem_cons hi]; rfl
theorem parsT_at (l : List S77) (i : Nat) (hi : i < l.length) : parsT (l.drop i) = 59 :: l[i].f0.data.toList ++ valsT l[i].f1 61 ++ parsT (l.drop (i + 1)) := by
  rw [List.drop_eq_getElem_cons hi]; rfl
theorem gblkc {w : World} {g : Nat} {cs : Array Value} {t : TypeId} {fr : Nat × Nat} (h : w.heap[g]? = some (.cells cs t fr)) (j : Nat) : w.cell? ⟨g, j, none⟩ = cs[j]? := by simp [World.cell?, h]
theorem kept53 {b g : Nat} {w w' : World} {cs : Array Value} {t : TypeId} (h : Lib.OthersKept 5 (some b) w w') (hg : w.heap[g]? = some (.cells cs t (0, 0))) (ht : t ≠ 5) (hgb : g ≠ b) : w'.heap[g]? = some (.cells cs t (0, 0)) := h g _ hg (by intro e; injection e with e; exact hgb e) (by intro c fz e; injection e with _ e2; exact ht e2)
set_option maxHeartbeats 800000 in
set_option maxRecDepth 100000 in
theorem print_ok (k : Nat) (nm : ByteArray) (A : Option Addr) (c : Nat) (l : List S77) (v : ByteArray) (w : World) (hG : GG w) (hr : Kd.C k77 w A l.length l) (hc : l.length ≤ c) (h : line_Formed.f k nm l v = some true) (hcl : cleanAll k l = true) (hlen : (lineT nm l v).length ≤ 1000000000) :
    Calls Tryz.prog 36 #[.agg #[.string nm, .slice A l.length c, .string v]] w fun e w' => e = .returned (.tuple #[.string (lineR nm l v).1, .int .i64 (lineR nm l v).2]) ∧ Below w.heap.size w w' := by
  have H := Aside0.mk h
  have HC := Aside0.mk hcl
  have HR := Aside0.mk hr
  have HLE := Aside0.mk hlen
  have hlm := hr.2.1
  have hnot : ∀ (x : Bool) (w : World), (Op.unary .not (.bool x)).run Tryz.prog w = .ok (.bool (!x)) w := fun _ _ => rfl
  clear h hcl hlen
  obtain ⟨n, hn⟩ : ∃ n, n = l.length := ⟨_, rfl⟩
  have HN := Aside0.mk hn
  clear hr
  rw [← hn] at hlm hc ⊢
  clear hn
  go_enter Tryz.func36, Tryz.ntmps36
  go_wp2_with fail
  go_at_call 45
  rw [HN.out]
  refine (line_Formed.calls k nm A c l v true _ (hG.alloc _) (Kd.C_below HR.out (below_alloc (Below.refl _ _) _)) (by have := HN.out; omega) H.out).mono ?_
  rintro e w1 ⟨rfl, hB⟩
  rw [← HN.out]
  obtain ⟨X, hX⟩ : ∃ X, X = w.heap.size := ⟨_, rfl⟩
  have HB := Aside0.mk ((below_alloc (Below.refl w.heap.size w) _).trans (hB.mono (by simp)))
  have hbx : w1.heap[X]? = some (.cells #[.string nm, .slice A n c, .string v] 49 (0, 0)) := by
    rw [HN.out, hX]; exact (hB.block w.heap.size (by simp)).trans (heap_alloc_new w _)
  have HXB := Aside0.mk hbx
  have hXl : X < w1.heap.size := (Array.getElem?_eq_some_iff.1 hbx).1
  rw [← hX]
  have HXs := Aside0.mk hX
  clear hB hX
  have x0 := gblkc hbx 0
  have x1 := gblkc hbx 1
  have x2 := gblkc hbx 2
  clear hbx
  go_wp2_with fail
  obtain ⟨B, hBd⟩ : ∃ B, B = w1.heap.size := ⟨_, rfl⟩
  have HBd := Aside0.mk hBd
  have HH0 : Aside0 (Bld.Has B B [] (w1.alloc (.cells #[.pointer none, .slice none 0 0] 84))) := ⟨by rw [hBd]; exact Bld.Has.new _ _ (Nat.le_refl _)⟩
  have HB0 : Aside0 (Below B w1 (w1.alloc (.cells #[.pointer none, .slice none 0 0] 84))) := ⟨by rw [hBd]; exact (Below.refl _ _).alloc (Nat.le_refl _) _⟩
  rw [← hBd]
  have hXB : X < B := by omega
  clear hBd
  have HPL : Aside0 (nm.data.toList.length + (parsT l).length + 1 + v.size ≤ 1000000000) := ⟨by
    have := HLE.out; unfold lineT at this; rw [List.length_append, List.length_append, List.length_cons] at this
    have e : v.data.toList.length = v.size := by simp
    omega⟩
  go_at_call 63
  refine (Bld.ws B B [] nm _ HH0.out (by have := HPL.out; have e : nm.data.toList.length = nm.size := by simp
                                         simp only [List.length_nil]; omega) (by have := HBd.out; simp; omega)).mono ?_
  rintro e w2 ⟨rfl, hH2, hB2, _⟩
  have HH2 := Aside0.mk hH2
  have HB2 := Aside0.mk (HB0.out.trans hB2)
  clear hH2 hB2 HH0 HB0
  have HXC := Aside0.mk x2
  have y1 := (HB2.out.cell (p := ⟨X, 1, none⟩) hXB).trans x1
  have y2 := (HB2.out.cell (p := ⟨X, 2, none⟩) hXB).trans x2
  clear x0 x1 x2
  go_wp2_with fail
  rw [List.nil_append] at HH2
  go_loopg [21] n (fun g v21 wr => ∃ i : Nat, v21 = .int .i64 i ∧ i ≤ n ∧ Aside0 (n ≤ i + g) ∧ Aside0 (∃ acc, Bld.Has B B acc wr ∧ acc ++ parsT (l.drop i) = nm.data.toList ++ parsT l) ∧ Aside0 (Below B w1 wr))
  case atStart => exact ⟨0, rfl, by omega, ⟨by omega⟩, ⟨_, HH2.out, by rw [List.drop_zero]⟩, HB2⟩
  case round =>
    obtain ⟨i, rfl, hi, HI, HH, HBr⟩ := hrel
    obtain ⟨acc, hH, hacc⟩ := HH.out
    have HHr := Aside0.mk hH
    have HAC := Aside0.mk hacc
    clear hH hacc HH2 HB2
    by_cases hlt : i < n
    · cases gk with
      | zero => exfalso; have := HI.out; omega
      | succ g =>
      have hil : i < l.length := by have := HN.out; omega
      obtain ⟨b0, o0, A2, c2, e0, p0, p1, hc2, hC2⟩ := par_at (Kd.C_below HR.out HB.out) i hil
      subst e0
      have hpt := parsT_at l i hil
      obtain ⟨p, hp⟩ : ∃ p, p = l[i] := ⟨_, rfl⟩
      have hpd : l.getD i z77 = p := by rw [List.getD_eq_getElem?_getD, List.getElem?_eq_getElem hil, hp]; rfl
      rw [hpd] at p0 p1 hc2 hC2
      rw [← hp] at hpt
      have HPT := Aside0.mk hpt
      have HCL : Aside0 (∀ x ∈ p.f1, escape_Clean.f k x true = some 0) := ⟨fun x hx => by
        have h1 := List.all_eq_true.1 HC.out p (by rw [hp]; exact List.getElem_mem hil)
        exact of_decide_eq_true (List.all_eq_true.1 h1 x hx)⟩
      have hbl : b0 < w1.heap.size := cellLt0 p0
      have hbB : b0 < B := by have := HBd.out; omega
      have q0 := (HBr.out.cell (p := ⟨b0, o0 + i * 2, none⟩) hbB).trans p0
      have q1 := (HBr.out.cell (p := ⟨b0, o0 + i * 2 + 1, none⟩) hbB).trans p1
      have HCV := Aside0.mk hC2
      have hsm := hC2.2.1
      have HSZ : Aside0 (acc.length + (1 + p.f0.size + (valsT p.f1 61).length + (parsT (l.drop (i + 1))).length) ≤ 1000000000) := ⟨by
        have e := congrArg List.length HAC.out
        rw [HPT.out] at e
        simp only [List.length_append, List.length_cons] at e
        have e2 : p.f0.data.toList.length = p.f0.size := by simp
        have := HPL.out
        omega⟩
      have b1 : (9223372036854775807 < 1 + p.f0.size) = False := eq_false (by have := HSZ.out; omega)
      have hwB : B ≤ wr.heap.size := by have := HBr.out.size; have := HBd.out; omega
      obtain ⟨m, hm⟩ : ∃ m, m = p.f1.length := ⟨_, rfl⟩
      have HM := Aside0.mk hm
      rw [← hm] at q1 hsm
      clear hp hpd hpt hc2 hC2 p0 p1 hbl hm y1 y2
      go_wp2_with fail
      go_at_call 63
      refine (Bld.ws B B acc _ _ (HHr.out.below (below_alloc (Below.refl _ _) _)) (by have := HSZ.out; rw [ByteArray.size_append]; show acc.length + (1 + p.f0.size) ≤ _; omega) (by simp; omega)).mono ?_
      rintro e w3 ⟨rfl, hH3, hB3, hk3⟩
      obtain ⟨Pb, hPb⟩ : ∃ Pb, Pb = wr.heap.size := ⟨_, rfl⟩
      have hpb : w3.heap[Pb]? = some (.cells #[.string p.f0, .slice A2 m c2] 77 (0, 0)) := by
        rw [hPb]
        exact kept53 hk3 (heap_alloc_new wr _) (by decide) (by have := HHr.out.lt; omega)
      have z1 := gblkc hpb 1
      have HH3 : Aside0 (Bld.Has B B (acc ++ [59] ++ p.f0.data.toList) w3) := ⟨by
        have e : (⟨#[59]⟩ ++ p.f0 : ByteArray).data.toList = [59] ++ p.f0.data.toList := by simp
        rw [e, ← List.append_assoc] at hH3; exact hH3⟩
      have HB3 := Aside0.mk ((HBr.out.alloc hwB _).trans hB3)
      rw [← hPb]
      clear hH3 hB3 hk3 hpb hPb q0 q1 b1
      go_wp2_with fail
      go_loopg [7, 9, 10, 11, 32] m (fun g2 v7 v9 v10 v11 v32 wr => ∃ j : Nat, v32 = .int .i64 j ∧ j ≤ m ∧ v7 = .int .u8 (if j = 0 then 61 else 44) ∧ Aside0 (m ≤ j + g2) ∧ Aside0 (∃ acc2, Bld.Has B B acc2 wr ∧ acc2 ++ valsT (p.f1.drop j) (if j = 0 then 61 else 44) = acc ++ [59] ++ p.f0.data.toList ++ valsT p.f1 61) ∧ Aside0 (Below B w1 wr))
      case atStart => exact ⟨0, rfl, by omega, rfl, ⟨by omega⟩, ⟨_, HH3.out, by rw [List.drop_zero]; rfl⟩, HB3⟩
      case round =>
        obtain ⟨j, rfl, hj, rfl, HJ, HH4, HB4⟩ := hrel
        obtain ⟨acc2, hH4, hacc2⟩ := HH4.out
        have HHj := Aside0.mk hH4
        have HAj := Aside0.mk hacc2
        clear hH4 hacc2 HH3 HB3
        obtain ⟨by', hby⟩ : ∃ by' : UInt8, ((by'.toNat : Nat) : Int) = (if j = 0 then 61 else 44) ∧ (if j = 0 then (61 : UInt8) else 44) = by' := ⟨if j = 0 then 61 else 44, by split <;> rfl, rfl⟩
        have HBY := Aside0.mk hby
        rw [← hby.1]
        clear hby
        by_cases hlt2 : j < m
        · cases gk with
          | zero => exfalso; have := HJ.out; omega
          | succ g2 =>
          have hjl : j < p.f1.length := by have := HM.out; omega
          have hb14 : Below w1.heap.size w1 wr := by have h := HB4.out; rw [HBd.out] at h; exact h
          obtain ⟨b5, o5, rfl, hcs⟩ := strs_row (Kd.C_below HCV.out hb14) (by intro e; rw [e] at hjl; simp at hjl)
          have hc5 := hcs j hjl
          have hvt := valsT_at p.f1 (if j = 0 then 61 else 44) j hjl
          obtain ⟨x, hx⟩ : ∃ x, x = p.f1[j] := ⟨_, rfl⟩
          have hxd : p.f1.getD j ByteArray.empty = x := by rw [List.getD_eq_getElem?_getD, List.getElem?_eq_getElem hjl, hx]; rfl
          rw [hxd] at hc5
          rw [← hx] at hvt
          have HVT := Aside0.mk hvt
          have hcx := HCL.out x (by rw [hx]; exact List.getElem_mem hjl)
          have HSj : Aside0 (acc2.length + (1 + (parL x.data.toList).length) ≤ 1000000000) := ⟨by
            have e := congrArg List.length HAj.out
            rw [HVT.out] at e
            simp only [List.length_append, List.length_cons, List.length_nil] at e
            have e2 : p.f0.data.toList.length = p.f0.size := by simp
            have := HSZ.out
            omega⟩
          have HPF : Aside0 (escape_Param.f k x = some (parW x, 0)) := ⟨by
            unfold escape_Param.f
            rw [hcx, Option.bind_some, if_pos rfl, if_pos]
            have h1 := parL_len x.data.toList
            have e : x.data.toList.length = x.size := by simp
            have := HSj.out
            omega⟩
          have hwB2 : B ≤ wr.heap.size := by have := HB4.out.size; have := HBd.out; omega
          have hGw : GG wr := hG.below (HB.out.trans (hb14.mono HB.out.size))
          clear hx hxd hvt hcx hcs hb14
          go_wp2_with fail
          go_at_call 64
          refine (escape_Param.calls k x (parW x) 0 _ hGw HPF.out).mono ?_
          rintro e w5 ⟨rfl, hB5⟩
          have HH5 := Aside0.mk (HHj.out.below hB5)
          have HB5 := Aside0.mk (HB4.out.trans (hB5.mono hwB2))
          have hwB5 : B ≤ w5.heap.size := by have := hB5.size; omega
          clear hB5 hGw
          go_wp2_with fail
          go_at_call 65
          refine (Bld.wb B B acc2 _ by' rfl _ HH5.out (by have := HSj.out; omega) hwB5).mono ?_
          rintro e w6 ⟨rfl, hH6, hB6, _⟩
          have HH6 := Aside0.mk hH6
          have HB6 := Aside0.mk (HB5.out.trans hB6)
          have hwB6 : B ≤ w6.heap.size := by have := hB6.size; omega
          clear hH6 hB6
          go_wp2_with fail
          go_at_call 63
          refine (Bld.ws B B (acc2 ++ [by']) (parW x) _ HH6.out (by have := HSj.out; have e : (parW x).size = (parL x.data.toList).length := by simp [parW, ByteArray.size]
                                                                    rw [List.length_append, List.length_singleton]; omega) hwB6).mono ?_
          rintro e w7 ⟨rfl, hH7, hB7, _⟩
          have HH7 := Aside0.mk hH7
          have HB7 := Aside0.mk (HB6.out.trans hB7)
          clear hH7 hB7
          go_wp2_with fail
          go_roundg g2
          case measure => have := HJ.out; omega
          case rel =>
            refine ⟨j + 1, by first | rfl | (go_num; done), by omega, by rw [if_neg (by omega)], ⟨by have := HJ.out; omega⟩, ⟨_, HH7.out, ?_⟩, HB7⟩
            rw [← HAj.out, HVT.out, HBY.out.2, if_neg (by omega)]
            simp [parW]
        · have hjm : j = m := by omega
          have HACC : Aside0 (acc2 ++ parsT (l.drop (i + 1)) = nm.data.toList ++ parsT l) := ⟨by
            have e := HAj.out
            rw [List.drop_eq_nil_of_le (by have := HM.out; omega)] at e
            rw [← HAC.out, HPT.out]
            simp only [valsT, List.append_nil] at e
            rw [e]
            simp⟩
          clear hjm
          go_wp2_with fail
          go_roundg g
          case measure => have := HI.out; omega
          case rel => exact ⟨i + 1, by first | rfl | (go_num; done), by omega, ⟨by have := HI.out; omega⟩, ⟨acc2, HHj.out, HACC.out⟩, HB4⟩
    · have hin : i = n := by omega
      have HACC : Aside0 (acc = nm.data.toList ++ parsT l) := ⟨by
        have e := HAC.out
        rw [List.drop_eq_nil_of_le (by have := HN.out; omega)] at e
        simpa [parsT] using e⟩
      have r2 := (HBr.out.cell (p := ⟨X, 2, none⟩) hXB).trans (HXC.out)
      have b1 : (9223372036854775807 < 1 + v.size) = False := eq_false (by have := HPL.out; omega)
      have hwB : B ≤ wr.heap.size := by have := HBr.out.size; have := HBd.out; omega
      clear hin y1 y2
      go_wp2_with fail
      go_at_call 63
      refine (Bld.ws B B acc _ _ HHr.out (by rw [HACC.out, ByteArray.size_append, List.length_append]; have := HPL.out; show _ + (1 + v.size) ≤ _; omega) hwB).mono ?_
      rintro e w3 ⟨rfl, hH3, hB3, _⟩
      have HH3 : Aside0 (Bld.Has B B (lineT nm l v) w3) := ⟨by
        have e : (⟨#[58]⟩ ++ v : ByteArray).data.toList = 58 :: v.data.toList := by simp
        rw [e, HACC.out] at hH3; exact hH3⟩
      have HB3 := Aside0.mk (HBr.out.trans hB3)
      have hwB3 : B ≤ w3.heap.size := by have := hB3.size; omega
      have hfin : ∀ w', Below B w1 w' → Below w.heap.size w w' := fun w' h => HB.out.trans (h.mono (by have := HBd.out; have := HB.out.size; omega))
      clear hH3 hB3 r2 b1
      obtain ⟨L, hL⟩ : ∃ L : Nat, L = (lineT nm l v).length := ⟨_, rfl⟩
      have HL := Aside0.mk hL
      clear hL
      by_cases hl2 : (2000 : Int) < (L : Int)
      · have hR : lineR nm l v = (⟨#[]⟩, 4) := by unfold lineR; rw [if_pos (by have := HL.out; omega)]
        have d1 : decide ((2000 : Int) < (L : Int)) = true := decide_eq_true hl2
        have HRR := Aside0.mk hR
        clear hR
        go_wp2_with fail
        go_at_call 39
        refine (Bld.len _ _ _ _ HH3.out).mono ?_
        rintro e w4 ⟨rfl, hw4⟩
        rw [hw4, ← HL.out]
        clear hw4
        go_wp2_with fail
        go_ret2
        exact ⟨by rw [HRR.out]; rfl, hfin _ HB3.out⟩
      · have hR : lineR nm l v = (⟨(lineT nm l v).toArray⟩, 0) := by unfold lineR; rw [if_neg (by have := HL.out; omega)]
        have d1 : decide ((2000 : Int) < (L : Int)) = false := decide_eq_false hl2
        have HRR := Aside0.mk hR
        clear hR
        go_wp2_with fail
        go_at_call 39
        refine (Bld.len _ _ _ _ HH3.out).mono ?_
        rintro e w4 ⟨rfl, hw4⟩
        rw [hw4, ← HL.out]
        clear hw4
        go_wp2_with fail
        go_at_call 41
        refine (Bld.str _ _ _ _ HH3.out hwB3).mono ?_
        rintro e w5 ⟨rfl, _, hB5, _⟩
        have HB5 := Aside0.mk (HB3.out.trans hB5)
        clear hB5
        go_wp2_with fail
        go_ret2
        exact ⟨by rw [HRR.out]; rfl, hfin _ HB5.out⟩
theorem line_Print.calls (k : Nat) (a0_0 : ByteArray) (A0_1 : Option Addr) (c0_1 : Nat) (l0_1 : List S77) (a0_2 : ByteArray) (r1 : ByteArray) (r2 : Int) (w : World) (hG : GG w) (hr0_1 : Kd.C k77 w A0_1 l0_1.length l0_1) (hc0_1 : l0_1.length ≤ c0_1) (h : line_Print.f k a0_0 l0_1 a0_2 = some (r1, r2)) :
    Calls Tryz.prog 36 #[.agg #[.string a0_0, .slice A0_1 l0_1.length c0_1, .string a0_2]] w fun e w' => e = .returned (.tuple #[.string r1, .int .i64 r2]) ∧ Below w.heap.size w w' := by
  unfold line_Print.f at h
  obtain ⟨ok, hok, h⟩ := Option.bind_eq_some_iff.1 h
  cases ok with
  | false =>
    rw [if_neg (by decide)] at h
    have hp := print_bad k a0_0 A0_1 c0_1 l0_1 a0_2 w hG hr0_1 hc0_1 hok
    obtain ⟨rfl, rfl⟩ := Prod.mk.inj (Option.some.inj h)
    exact hp
  | true =>
    rw [if_pos rfl] at h
    by_cases hg : cleanAll k l0_1 = true ∧ (lineT a0_0 l0_1 a0_2).length ≤ 1000000000
    · rw [if_pos hg] at h
      have hp := print_ok k a0_0 A0_1 c0_1 l0_1 a0_2 w hG hr0_1 hc0_1 hok hg.1 hg.2
      rw [Option.some.inj h] at hp
      exact hp
    · rw [if_neg hg] at h; exact absurd h (by simp)
end Go.Proofs.YtdojmdbaiddkgaaGreatDoor.Print
end
section
namespace Go.Proofs.YtdojmdbaiddkgaaGreatDoor.Print
open Go.RowKit Go.Proofs.YtdojmdbaiddkgaaGreatDoorW.PrintWords Go.Proofs.YtdojmdbaiddkgaaGreatDoorW.PrintLast Go.Proofs.YtdojmdbaiddkgaaGreatDoorW.PrintMore
set_option linter.unusedVariables false
set_option linter.unusedSimpArgs false
mutual
def tree_lines.l0 : Nat → List ByteArray → List (S49) → Int → Int → ByteArray → List (S49) → List (S31) → Option (List ByteArray × Int)
 | 0, _, _, _, _, _, _, _ => none
 | k + 1, x4, x18, x19, x20, x260000, x260001, x260002 => if x20 < x19 then (if 0 ≤ x20 then (if x20 < (x18.length : Int) then ((line_Print.f k ((rd_T49 x18 x20).f0) ((rd_T49 x18 x20).f1) ((rd_T49 x18 x20).f2)).bind fun bt265 => (if bt265.2 = 0 then (if x4.length < 8796093022208 then (tree_lines.l0 k (x4 ++ [bt265.1]) x18 x19 (wrap64 (x20 + 1)) x260000 x260001 x260002) else (none)) else (some (([] : List ByteArray), bt265.2)))) else (none)) else (none)) else (tree_lines.l1 k x4 x260002 (x260002.length : Int) 0 x260000 x260001 x260002)
def tree_lines.l1 : Nat → List ByteArray → List (S31) → Int → Int → ByteArray → List (S49) → List (S31) → Option (List ByteArray × Int)
 | 0, _, _, _, _, _, _, _ => none
 | k + 1, x4, x38, x39, x40, x260000, x260001, x260002 => if x40 < x39 then (if 0 ≤ x40 then (if x40 < (x38.length : Int) then ((tree_lines.f k ((rd_T31 x38 x40).f0) ((rd_T31 x38 x40).f1) ((rd_T31 x38 x40).f2)).bind fun bt272 => (if bt272.2 = 0 then (if x4.length + bt272.1.length < 8796093022208 then (tree_lines.l1 k (x4 ++ bt272.1) x38 x39 (wrap64 (x40 + 1)) x260000 x260001 x260002) else (none)) else (some (([] : List ByteArray), bt272.2)))) else (none)) else (none)) else (if 4 + x260000.size ≤ 9223372036854775807 then (if x4.length < 8796093022208 then (some ((x4 ++ [(⟨#[69, 78, 68, 58]⟩ : ByteArray) ++ x260000]), 0)) else (none)) else (none))
def tree_lines.f : Nat → ByteArray → List (S49) → List (S31) → Option (List ByteArray × Int)
 | 0, _, _, _ => none
 | k + 1, a0_0, l0_1, l0_2 => if 6 + a0_0.size ≤ 9223372036854775807 then (tree_lines.l0 k (([(⟨#[66, 69, 71, 73, 78, 58]⟩ : ByteArray) ++ a0_0] : List ByteArray)) l0_1 (l0_1.length : Int) 0 a0_0 l0_1 l0_2) else (none)
end
set_option maxHeartbeats 8000000 in
set_option maxRecDepth 100000 in
theorem tree_lines.calls (k : Nat) : ∀ (a0_0 : ByteArray) (A0_1 : Option Addr) (c0_1 : Nat) (l0_1 : List (S49)) (A0_2 : Option Addr) (c0_2 : Nat) (l0_2 : List (S31)) (r1 : List ByteArray) (r2 : Int) (w : World) (hG : GG w) (hr0_1 : Kd.C k49 w A0_1 l0_1.length l0_1) (hc0_1 : l0_1.length ≤ c0_1) (hr0_2 : Kd.C k31 w A0_2 l0_2.length l0_2) (hc0_2 : l0_2.length ≤ c0_2) (h : tree_lines.f k a0_0 l0_1 l0_2 = some (r1, r2)),
  Calls Tryz.prog 21 #[.agg #[.string a0_0, .slice A0_1 l0_1.length c0_1, .slice A0_2 l0_2.length c0_2]] w fun e w' => ∃ v0_ : Value, e = .returned (.tuple #[v0_, .int .i64 r2]) ∧ Kd.R Kd.string 9 w' w.heap.size (fun _ => True) v0_ r1 ∧ Below w.heap.size w w' := by
 induction k using Nat.strongRecOn with
 | _ k ih =>
 intro a0_0 A0_1 c0_1 l0_1 A0_2 c0_2 l0_2 r1 r2 w hG hr0_1 hc0_1 hr0_2 hc0_2 h
 cases k with
 | zero => exact absurd h (by simp [tree_lines.f])
 | succ k =>
 simp only [tree_lines.f] at h; have hu31 := Tryz.underlying31; have hu49 := Tryz.underlying49; have HR0_1 := Aside0.mk hr0_1; have HC0_1 := Aside0.mk hc0_1; clear hr0_1 hc0_1; have HR0_2 := Aside0.mk hr0_2; have HC0_2 := Aside0.mk hc0_2; clear hr0_2 hc0_2; have HB := Aside0.mk (Below.refl w.heap.size w); have H : (if 6 + a0_0.size ≤ 9223372036854775807 then (tree_lines.l0 k (([(⟨#[66, 69, 71, 73, 78, 58]⟩ : ByteArray) ++ a0_0] : List ByteArray)) l0_1 (l0_1.length : Int) 0 a0_0 l0_1 l0_2) else (none)) = some (r1, r2) := h; clear h; replace H := zI H; rcases H with ⟨c2, H⟩ | ⟨c2, H⟩
 ·have c2b0 := eq_true c2; have c2b1 : decide (6 + a0_0.size ≤ 9223372036854775807) = true := decide_eq_true c2
  try have c2b2 : (9223372036854775807 < 6 + a0_0.size) = False := eq_false (Nat.not_lt.2 c2)
  obtain ⟨y260, hy260⟩ : ∃ y_ : List ByteArray, y_ = (([(⟨#[66, 69, 71, 73, 78, 58]⟩ : ByteArray) ++ a0_0] : List ByteArray)) := ⟨_, rfl⟩; replace H : (tree_lines.l0 k y260 l0_1 (l0_1.length : Int) 0 a0_0 l0_1 l0_2) = some (r1, r2) := by first | (rw [hy260]; with_reducible exact H) | (have H2_ := (Option.bind_some _ _).symm.trans H; rw [hy260]; with_reducible exact H2_) | (have H2_ := (Option.bind_some _ _).symm.trans H; with_reducible exact H2_) | with_reducible exact H | (rw [hy260]; exact H) | exact H
  have Ny260 := Aside0.mk hy260; clear hy260; have H' := Aside0.mk H; clear H
  go_enter Tryz.func21, Tryz.ntmps21
  go_wp2_with (first | ((with_reducible refine gate_dst (N := 1) rfl ?_); refine zbox (N := 1) #[.string a0_0, .slice A0_1 l0_1.length c0_1, .slice A0_2 l0_2.length c0_2] 31 (fun gb259 hg w3 hbox hb => ?_); replace BK259 := Aside0.mk hbox; replace GE259 := zg w hg; replace HB := zw hb; clear hb hbox hg; obtain ⟨hcz4_0, hcz4_1, hcz4_2, hfz4_0, hfz4_1, hfz4_2⟩ := zk3 BK259) | ((with_reducible refine gate_dst (N := 16) rfl ?_); refine Kd.R_lit Kd.string _ 9 ?hg (N := 16) ?hd (xs := ([(⟨#[66, 69, 71, 73, 78, 58]⟩ : ByteArray) ++ a0_0] : List ByteArray)) (inner := [.string ((⟨#[66, 69, 71, 73, 78, 58]⟩ : ByteArray) ++ a0_0)]) (ok := fun _ => True) (okp := fun _ => True) ?hr ?hp (fun _ hk => hk) trivial (Below.refl _ _) (Nat.le_refl _) (by simp) ?_; (case hd => rfl); (case hg => rfl); (case hr => first | (go_simp; done) | (go_simp; rfl)); (case hp => exact (Reps.one (show Kd.M Kd.string _ _ _ ((⟨#[66, 69, 71, 73, 78, 58]⟩ : ByteArray) ++ a0_0) [.string ((⟨#[66, 69, 71, 73, 78, 58]⟩ : ByteArray) ++ a0_0)] from rfl) (Reps.none _ _))); intro v261 w5 ho6 hb hg_ hnew_; clear hg_ hnew_; (first | rw [← Ny260.out] at ho6 | (simp only [Int.reduceToNat] at ho6; rw [← Ny260.out] at ho6)); replace HO262 := Aside0.mk (Kd.R_lower ho6 (below_size zB)); replace BK259 := zb BK259 hb; replace HB := zw hb; clear hb ho6; obtain ⟨hcz7_0, hcz7_1, hcz7_2, hfz7_0, hfz7_1, hfz7_2⟩ := zk3 BK259))
  go_loopg [4, 20] k (fun kq v4 v20 w' => ∃ (x4_1 : List ByteArray) (x20_1 : Int), v20 = .int .i64 x20_1 ∧ Aside0 (tree_lines.l0 kq x4_1 l0_1 (l0_1.length : Int) x20_1 a0_0 l0_1 l0_2 = some (r1, r2)) ∧ Aside0 (kq ≤ k) ∧ Aside0 (Kd.R Kd.string 9 w' w.heap.size (fun _ => True) v4 x4_1) ∧ Aside0 (w'.heap[gb259]? = some (.cells #[.string a0_0, (.slice A0_1 l0_1.length c0_1), (.slice A0_2 l0_2.length c0_2)] 31 (0, 0))) ∧ Aside0 (Below w.heap.size w w'))
  case atStart => exact ⟨(y260), (0), zS, H', ⟨Nat.le_refl _⟩, ⟨Kd.R_below HO262.out zX⟩, ⟨blk_below BK259.out zX⟩, ⟨zB⟩⟩
  case round =>
   clear H'; clear c2 c2b0 c2b1 hcz4_0 hcz4_1 hcz4_2 hcz7_0 hcz7_1 hcz7_2 hfz4_0 hfz4_1 hfz4_2 hfz7_0 hfz7_1 hfz7_2; obtain ⟨x4_1, x20_1, rfl, HA, HK1, HO_4, BK259, HB⟩ := hrel
   cases gk with
   | zero => exact absurd HA.out (by simp [tree_lines.l0])
   | succ k1 =>
    have H := HA.out; clear HA; simp only [tree_lines.l0] at H; replace H := zId H; rcases H with ⟨-, c8b0, H⟩ | ⟨-, c8b0, H⟩
    ·replace H := zJJ H; obtain ⟨c9b0, c10b0, H⟩ := H; replace H := Option.bind_eq_some_iff.mp H; obtain ⟨⟨t265, t266⟩, A110, H⟩ := H; replace H : (if t266 = 0 then (if x4_1.length < 8796093022208 then (tree_lines.l0 k1 (x4_1 ++ [t265]) l0_1 (l0_1.length : Int) (wrap64 (x20_1 + 1)) a0_0 l0_1 l0_2) else (none)) else (some (([] : List ByteArray), t266))) = some (r1, r2) := H; have A11 := Aside0.mk A110; clear A110; replace H := zIe H; rcases H with ⟨-, c12b0, c12b1, H⟩ | ⟨c12, c12b0, c12b1, H⟩
     ·replace H := zJ H; obtain ⟨c13, H⟩ := H; have LMc13 := Aside0.mk c13; clear c13; obtain ⟨y267, hy267⟩ : ∃ y_ : List ByteArray, y_ = (x4_1 ++ [t265]) := ⟨_, rfl⟩; replace H : (tree_lines.l0 k1 y267 l0_1 (l0_1.length : Int) (wrap64 (x20_1 + 1)) a0_0 l0_1 l0_2) = some (r1, r2) := by first | (rw [hy267]; with_reducible exact H) | (have H2_ := (Option.bind_some _ _).symm.trans H; rw [hy267]; with_reducible exact H2_) | (have H2_ := (Option.bind_some _ _).symm.trans H; with_reducible exact H2_) | with_reducible exact H | (rw [hy267]; exact H) | exact H
      have Ny267 := Aside0.mk hy267; clear hy267; have H' := Aside0.mk H; clear H; have p263 := zQ (0 ≤ (x20_1 : Int)); have q263 := zQ (x20_1 < (l0_1.length : Int)); obtain ⟨ad263, A263_1, c263_1, e263, hx263_0, hx263_1, hx263_2, hl263_1, hi263_1⟩ := at_T49 HR0_1.out x20_1 p263 q263
      cases e263
      replace hx263_0 := zx HB hx263_0; replace hx263_1 := zx HB hx263_1; replace hx263_2 := zx HB hx263_2; have HR263_1 := Aside0.mk hi263_1; have HC263_1 := Aside0.mk hl263_1; clear hi263_1 hl263_1; replace p263 := eq_true p263; replace q263 := eq_true q263
      go_wp2_with (first | ((with_reducible refine gate_dst (N := 6) rfl ?_); refine zbox (N := 6) #[.string (⟨#[]⟩ : ByteArray), .slice none 0 0, .string (⟨#[]⟩ : ByteArray)] 49 (fun gb264 hg w14 hbox hb => ?_); replace HO_4 := Aside0.mk (Kd.R_below (Kd.R_below HO_4.out zX) hb); replace BK264 := Aside0.mk hbox; replace GE264 := zg w hg; replace HB := zw hb; replace NB259_264 := zn BK259 hg; replace NB264_259 := zm BK259 hg; replace BK259 := zb BK259 hb; clear hb hbox hg; have hnb15 := NB264_259.out; have hnc15 := NB259_264.out; obtain ⟨hcz16_0, hcz16_1, hcz16_2, hfz16_0, hfz16_1, hfz16_2⟩ := zk3 BK264) | ((with_reducible refine gate_callee (f := 36) rfl ?_); refine goesL_ (some 26) rfl rfl Tryz.func36 (by kernel_rfl) rfl #[.agg #[.string ((rd_T49 l0_1 x20_1).f0), .slice A263_1 ((rd_T49 l0_1 x20_1).f1).length c263_1, .string ((rd_T49 l0_1 x20_1).f2)]] rfl zA ?_; (with_reducible refine (line_Print.calls k1 ((rd_T49 l0_1 x20_1).f0) _ _ ((rd_T49 l0_1 x20_1).f1) ((rd_T49 l0_1 x20_1).f2) t265 t266 _ zG ?side1 ?side2 A11.out).mono ?_); (case side1 => exact Kd.C_below HR263_1.out zB); (case side2 => exact HC263_1.out); rintro e w17 ⟨rfl, hb⟩; refine ⟨_, rfl, ?_⟩; replace HO_4 := Aside0.mk (Kd.R_below (by (with_reducible repeat (first | apply Kd.R_alloc | apply Kd.R_drewN | apply Kd.R_drew)); exact (Kd.R_mono (Kd.R_far (p := ⟨gb264, 2, none⟩) (Kd.R_far (p := ⟨gb264, 1, none⟩) (Kd.R_far (p := ⟨gb264, 0, none⟩) (Kd.R_types HO_4.out BK264.out (by decide)) (fun _ hk => hk.2) (.string ((rd_T49 l0_1 x20_1).f0))) (fun _ hk => hk.2) (.slice A263_1 ((rd_T49 l0_1 x20_1).f1).length c263_1)) (fun _ hk => hk.2) (.string ((rd_T49 l0_1 x20_1).f2))) (fun _ h_ => h_.1))) hb); replace BK259 := Aside0.mk (blk_below (g := gb259) (o := .cells #[.string a0_0, .slice (some ad263) l0_1.length c0_1, .slice A0_2 l0_2.length c0_2] 31 (0, 0)) (by (with_reducible repeat (first | refine blk_drewN ?_ _ | refine blk_drew ?_ | refine blk_alloc ?_ _)); refine blk_far ?_ NB259_264.out _; (with_reducible repeat (first | refine blk_drewN ?_ _ | refine blk_drew ?_ | refine blk_alloc ?_ _)); refine blk_far ?_ NB259_264.out _; (with_reducible repeat (first | refine blk_drewN ?_ _ | refine blk_drew ?_ | refine blk_alloc ?_ _)); refine blk_far ?_ NB259_264.out _; (with_reducible repeat (first | refine blk_drewN ?_ _ | refine blk_drew ?_ | refine blk_alloc ?_ _)); exact BK259.out) hb); replace BK264 := Aside0.mk (blk_below (g := gb264) (o := .cells #[.string ((rd_T49 l0_1 x20_1).f0), .slice A263_1 ((rd_T49 l0_1 x20_1).f1).length c263_1, .string ((rd_T49 l0_1 x20_1).f2)] 49 (0, 0)) (by (with_reducible repeat (first | refine blk_drewN ?_ _ | refine blk_drew ?_ | refine blk_alloc ?_ _)); refine blk_put (cs := #[.string ((rd_T49 l0_1 x20_1).f0), .slice A263_1 ((rd_T49 l0_1 x20_1).f1).length c263_1, .string (⟨#[]⟩ : ByteArray)]) ?_ 2 _ rfl; (with_reducible repeat (first | refine blk_drewN ?_ _ | refine blk_drew ?_ | refine blk_alloc ?_ _)); refine blk_put (cs := #[.string ((rd_T49 l0_1 x20_1).f0), .slice none 0 0, .string (⟨#[]⟩ : ByteArray)]) ?_ 1 _ rfl; (with_reducible repeat (first | refine blk_drewN ?_ _ | refine blk_drew ?_ | refine blk_alloc ?_ _)); refine blk_put (cs := #[.string (⟨#[]⟩ : ByteArray), .slice none 0 0, .string (⟨#[]⟩ : ByteArray)]) ?_ 0 _ rfl; (with_reducible repeat (first | refine blk_drewN ?_ _ | refine blk_drew ?_ | refine blk_alloc ?_ _)); exact BK264.out) hb); replace HB := zw hb; clear hb) | ((with_reducible refine gate_builtin (b := .append) (xs := #[.tmp 32, .tmp 34]) rfl ?_); at_builtin; refine Kd.R_append Kd.string (w0 := w) w.heap.size rfl (.tmp 32) (.tmp 34) 54 9 (.string ⟨#[]⟩) 16 rfl Tryz.underlying54 info9 rfl (by decide) (by omega) u4 x4_1 t265 [.string t265] (fun _ => True) (fun _ => False) rfl rfl ?aP (fun _ hk => hk.elim) ?aF ?aO ?aB ?aS ?aL ?_; (case aP => exact rfl); (case aB => exact zB); (case aF => exact (fun _ _ => trivial)); (case aO => exact (Kd.R_below HO_4.out zX)); (case aS => exact (below_size zB)); (case aL => have := LMc13.out; omega); intro v268 w18 ho hb hg hat; rw [← Ny267.out] at ho; have n0_ := Aside0.mk (blk_grown (g := gb259) (o := .cells #[.string a0_0, .slice (some ad263) l0_1.length c0_1, .slice A0_2 l0_2.length c0_2] 31 (0, 0)) (blk_below BK259.out zX) hg (Kd.R_ne HO_4.out BK259.out (by decide))); have n1_ := Aside0.mk (blk_grown (g := gb264) (o := .cells #[.string ((rd_T49 l0_1 x20_1).f0), .slice A263_1 ((rd_T49 l0_1 x20_1).f1).length c263_1, .string ((rd_T49 l0_1 x20_1).f2)] 49 (0, 0)) (blk_below BK264.out zX) hg (Kd.R_ne HO_4.out BK264.out (by decide))); have n2_ := Aside0.mk (hb); have n3_ := Aside0.mk (ho); clear BK259; clear BK264; clear HB; clear HO_4; have BK259 := n0_; have BK264 := n1_; have HB := n2_; have HO269 := n3_; clear n0_ n1_ n2_ n3_; clear ho hb hg hat))
      go_roundg k1
      case measure => have := HK1.out; omega
      case rel => exact ⟨(y267), (wrap64 (x20_1 + 1)), zS, H', ⟨by have := HK1.out; omega⟩, ⟨Kd.R_below HO269.out zX⟩, ⟨blk_below BK259.out zX⟩, ⟨zB⟩⟩
     ·simp only [Option.some.injEq, Prod.mk.injEq] at H; obtain ⟨rfl, rfl⟩ := H; have p263 := zQ (0 ≤ (x20_1 : Int)); have q263 := zQ (x20_1 < (l0_1.length : Int)); obtain ⟨ad263, A263_1, c263_1, e263, hx263_0, hx263_1, hx263_2, hl263_1, hi263_1⟩ := at_T49 HR0_1.out x20_1 p263 q263
      cases e263
      replace hx263_0 := zx HB hx263_0; replace hx263_1 := zx HB hx263_1; replace hx263_2 := zx HB hx263_2; have HR263_1 := Aside0.mk hi263_1; have HC263_1 := Aside0.mk hl263_1; clear hi263_1 hl263_1; replace p263 := eq_true p263; replace q263 := eq_true q263
      go_wp2_with (first | ((with_reducible refine gate_dst (N := 6) rfl ?_); refine zbox (N := 6) #[.string (⟨#[]⟩ : ByteArray), .slice none 0 0, .string (⟨#[]⟩ : ByteArray)] 49 (fun gb264 hg w19 hbox hb => ?_); replace HO_4 := Aside0.mk (Kd.R_below (Kd.R_below HO_4.out zX) hb); replace BK264 := Aside0.mk hbox; replace GE264 := zg w hg; replace HB := zw hb; replace NB259_264 := zn BK259 hg; replace NB264_259 := zm BK259 hg; replace BK259 := zb BK259 hb; clear hb hbox hg; have hnb20 := NB264_259.out; have hnc20 := NB259_264.out; obtain ⟨hcz21_0, hcz21_1, hcz21_2, hfz21_0, hfz21_1, hfz21_2⟩ := zk3 BK264) | ((with_reducible refine gate_callee (f := 36) rfl ?_); refine goesL_ (some 26) rfl rfl Tryz.func36 (by kernel_rfl) rfl #[.agg #[.string ((rd_T49 l0_1 x20_1).f0), .slice A263_1 ((rd_T49 l0_1 x20_1).f1).length c263_1, .string ((rd_T49 l0_1 x20_1).f2)]] rfl zA ?_; (with_reducible refine (line_Print.calls k1 ((rd_T49 l0_1 x20_1).f0) _ _ ((rd_T49 l0_1 x20_1).f1) ((rd_T49 l0_1 x20_1).f2) t265 t266 _ zG ?side1 ?side2 A11.out).mono ?_); (case side1 => exact Kd.C_below HR263_1.out zB); (case side2 => exact HC263_1.out); rintro e w22 ⟨rfl, hb⟩; refine ⟨_, rfl, ?_⟩; replace HO_4 := Aside0.mk (Kd.R_below (by (with_reducible repeat (first | apply Kd.R_alloc | apply Kd.R_drewN | apply Kd.R_drew)); exact (Kd.R_mono (Kd.R_far (p := ⟨gb264, 2, none⟩) (Kd.R_far (p := ⟨gb264, 1, none⟩) (Kd.R_far (p := ⟨gb264, 0, none⟩) (Kd.R_types HO_4.out BK264.out (by decide)) (fun _ hk => hk.2) (.string ((rd_T49 l0_1 x20_1).f0))) (fun _ hk => hk.2) (.slice A263_1 ((rd_T49 l0_1 x20_1).f1).length c263_1)) (fun _ hk => hk.2) (.string ((rd_T49 l0_1 x20_1).f2))) (fun _ h_ => h_.1))) hb); replace BK259 := Aside0.mk (blk_below (g := gb259) (o := .cells #[.string a0_0, .slice (some ad263) l0_1.length c0_1, .slice A0_2 l0_2.length c0_2] 31 (0, 0)) (by (with_reducible repeat (first | refine blk_drewN ?_ _ | refine blk_drew ?_ | refine blk_alloc ?_ _)); refine blk_far ?_ NB259_264.out _; (with_reducible repeat (first | refine blk_drewN ?_ _ | refine blk_drew ?_ | refine blk_alloc ?_ _)); refine blk_far ?_ NB259_264.out _; (with_reducible repeat (first | refine blk_drewN ?_ _ | refine blk_drew ?_ | refine blk_alloc ?_ _)); refine blk_far ?_ NB259_264.out _; (with_reducible repeat (first | refine blk_drewN ?_ _ | refine blk_drew ?_ | refine blk_alloc ?_ _)); exact BK259.out) hb); replace BK264 := Aside0.mk (blk_below (g := gb264) (o := .cells #[.string ((rd_T49 l0_1 x20_1).f0), .slice A263_1 ((rd_T49 l0_1 x20_1).f1).length c263_1, .string ((rd_T49 l0_1 x20_1).f2)] 49 (0, 0)) (by (with_reducible repeat (first | refine blk_drewN ?_ _ | refine blk_drew ?_ | refine blk_alloc ?_ _)); refine blk_put (cs := #[.string ((rd_T49 l0_1 x20_1).f0), .slice A263_1 ((rd_T49 l0_1 x20_1).f1).length c263_1, .string (⟨#[]⟩ : ByteArray)]) ?_ 2 _ rfl; (with_reducible repeat (first | refine blk_drewN ?_ _ | refine blk_drew ?_ | refine blk_alloc ?_ _)); refine blk_put (cs := #[.string ((rd_T49 l0_1 x20_1).f0), .slice none 0 0, .string (⟨#[]⟩ : ByteArray)]) ?_ 1 _ rfl; (with_reducible repeat (first | refine blk_drewN ?_ _ | refine blk_drew ?_ | refine blk_alloc ?_ _)); refine blk_put (cs := #[.string (⟨#[]⟩ : ByteArray), .slice none 0 0, .string (⟨#[]⟩ : ByteArray)]) ?_ 0 _ rfl; (with_reducible repeat (first | refine blk_drewN ?_ _ | refine blk_drew ?_ | refine blk_alloc ?_ _)); exact BK264.out) hb); replace HB := zw hb; clear hb))
      go_ret2; exact ⟨_, zE, by first | exact Kd.R_nil _ _ _ _ _ | exact Kd.N_nil _ _ _ _ _ | exact Kd.V_nil _ _ _ _ _ | exact Kd.Q_nil _ _ _ _ _ | exact Kd.S_nil _ _ _ _ _, zB⟩
    ·have H' := Aside0.mk H; clear H; obtain ⟨hcz23_0, hcz23_1, hcz23_2, hfz23_0, hfz23_1, hfz23_2⟩ := zk3 BK259; go_wp2
     go_loopg [4, 40] k1 (fun kq v4 v40 w' => ∃ (x4_2 : List ByteArray) (x40_2 : Int), v40 = .int .i64 x40_2 ∧ Aside0 (tree_lines.l1 kq x4_2 l0_2 (l0_2.length : Int) x40_2 a0_0 l0_1 l0_2 = some (r1, r2)) ∧ Aside0 (kq ≤ k1) ∧ Aside0 (Kd.R Kd.string 9 w' w.heap.size (fun _ => True) v4 x4_2) ∧ Aside0 (w'.heap[gb259]? = some (.cells #[.string a0_0, (.slice A0_1 l0_1.length c0_1), (.slice A0_2 l0_2.length c0_2)] 31 (0, 0))) ∧ Aside0 (Below w.heap.size w w'))
     case atStart => exact ⟨(x4_1), (0), zS, H', ⟨Nat.le_refl _⟩, ⟨Kd.R_below HO_4.out zX⟩, ⟨blk_below BK259.out zX⟩, ⟨zB⟩⟩
     case round =>
      clear H'; clear c8b0 hcz23_0 hcz23_1 hcz23_2 hfz23_0 hfz23_1 hfz23_2; obtain ⟨x4_2, x40_2, rfl, HA, HK2, HO_4, BK259, HB⟩ := hrel
      cases gk with
      | zero => exact absurd HA.out (by simp [tree_lines.l1])
      | succ k2 =>
       have H := HA.out; clear HA; simp only [tree_lines.l1] at H; replace H := zId H; rcases H with ⟨-, c24b0, H⟩ | ⟨-, c24b0, H⟩
       ·replace H := zJJ H; obtain ⟨c25b0, c26b0, H⟩ := H; replace H := Option.bind_eq_some_iff.mp H; obtain ⟨⟨t272, t275⟩, A270, H⟩ := H; replace H : (if t275 = 0 then (if x4_2.length + t272.length < 8796093022208 then (tree_lines.l1 k2 (x4_2 ++ t272) l0_2 (l0_2.length : Int) (wrap64 (x40_2 + 1)) a0_0 l0_1 l0_2) else (none)) else (some (([] : List ByteArray), t275))) = some (r1, r2) := H; have A27 := Aside0.mk A270; clear A270; replace H := zIe H; rcases H with ⟨-, c28b0, c28b1, H⟩ | ⟨c28, c28b0, c28b1, H⟩
        ·replace H := zJ H; obtain ⟨c29, H⟩ := H; have LMc29 := Aside0.mk c29; clear c29; obtain ⟨y276, hy276⟩ : ∃ y_ : List ByteArray, y_ = (x4_2 ++ t272) := ⟨_, rfl⟩; replace H : (tree_lines.l1 k2 y276 l0_2 (l0_2.length : Int) (wrap64 (x40_2 + 1)) a0_0 l0_1 l0_2) = some (r1, r2) := by first | (rw [hy276]; with_reducible exact H) | (have H2_ := (Option.bind_some _ _).symm.trans H; rw [hy276]; with_reducible exact H2_) | (have H2_ := (Option.bind_some _ _).symm.trans H; with_reducible exact H2_) | with_reducible exact H | (rw [hy276]; exact H) | exact H
         have Ny276 := Aside0.mk hy276; clear hy276; have H' := Aside0.mk H; clear H; have p270 := zQ (0 ≤ (x40_2 : Int)); have q270 := zQ (x40_2 < (l0_2.length : Int)); obtain ⟨ad270, A270_1, c270_1, A270_2, c270_2, e270, hx270_0, hx270_1, hx270_2, hl270_1, hi270_1, hl270_2, hi270_2⟩ := at_T31 HR0_2.out x40_2 p270 q270
         cases e270
         replace hx270_0 := zx HB hx270_0; replace hx270_1 := zx HB hx270_1; replace hx270_2 := zx HB hx270_2; have HR270_1 := Aside0.mk hi270_1; have HC270_1 := Aside0.mk hl270_1; clear hi270_1 hl270_1; have HR270_2 := Aside0.mk hi270_2; have HC270_2 := Aside0.mk hl270_2; clear hi270_2 hl270_2; replace p270 := eq_true p270; replace q270 := eq_true q270
         go_wp2_with (first | ((with_reducible refine gate_dst (N := 10) rfl ?_); refine zbox (N := 10) #[.string (⟨#[]⟩ : ByteArray), .slice none 0 0, .slice none 0 0] 31 (fun gb271 hg w30 hbox hb => ?_); replace HO_4 := Aside0.mk (Kd.R_below (Kd.R_below HO_4.out zX) hb); replace BK271 := Aside0.mk hbox; replace GE271 := zg w hg; replace HB := zw hb; replace NB259_271 := zn BK259 hg; replace NB271_259 := zm BK259 hg; replace BK259 := zb BK259 hb; clear hb hbox hg; have hnb31 := NB271_259.out; have hnc31 := NB259_271.out; obtain ⟨hcz32_0, hcz32_1, hcz32_2, hfz32_0, hfz32_1, hfz32_2⟩ := zk3 BK271) | ((with_reducible refine gate_callee (f := 21) rfl ?_); refine goesL_ (some 46) rfl rfl Tryz.func21 (by kernel_rfl) rfl #[.agg #[.string ((rd_T31 l0_2 x40_2).f0), .slice A270_1 ((rd_T31 l0_2 x40_2).f1).length c270_1, .slice A270_2 ((rd_T31 l0_2 x40_2).f2).length c270_2]] rfl zA ?_; (with_reducible refine (ih k2 (by have := HK1.out; have := HK2.out; omega) ((rd_T31 l0_2 x40_2).f0) _ _ ((rd_T31 l0_2 x40_2).f1) _ _ ((rd_T31 l0_2 x40_2).f2) t272 t275 _ zG ?side1 ?side2 ?side3 ?side4 A27.out).mono ?_); (case side1 => exact Kd.C_below HR270_1.out zB); (case side2 => exact HC270_1.out); (case side3 => exact Kd.C_below HR270_2.out zB); (case side4 => exact HC270_2.out); rintro e w33 ⟨v273, rfl, ho0, hb⟩; refine ⟨_, rfl, ?_⟩; replace HO274 := Aside0.mk (Kd.R_lower (Kd.R_new' ho0 (Kd.R_lt (by (with_reducible repeat (first | apply Kd.R_alloc | apply Kd.R_drewN | apply Kd.R_drew)); exact (Kd.R_mono (Kd.R_far (p := ⟨gb271, 2, none⟩) (Kd.R_far (p := ⟨gb271, 1, none⟩) (Kd.R_far (p := ⟨gb271, 0, none⟩) (Kd.R_types HO_4.out BK271.out (by decide)) (fun _ hk => hk.2) (.string ((rd_T31 l0_2 x40_2).f0))) (fun _ hk => hk.2) (.slice A270_1 ((rd_T31 l0_2 x40_2).f1).length c270_1)) (fun _ hk => hk.2) (.slice A270_2 ((rd_T31 l0_2 x40_2).f2).length c270_2)) (fun _ h_ => h_.1))))) (below_size zB)); replace HO_4 := Aside0.mk (Kd.R_elder' (by (with_reducible repeat (first | apply Kd.R_alloc | apply Kd.R_drewN | apply Kd.R_drew)); exact (Kd.R_mono (Kd.R_far (p := ⟨gb271, 2, none⟩) (Kd.R_far (p := ⟨gb271, 1, none⟩) (Kd.R_far (p := ⟨gb271, 0, none⟩) (Kd.R_types HO_4.out BK271.out (by decide)) (fun _ hk => hk.2) (.string ((rd_T31 l0_2 x40_2).f0))) (fun _ hk => hk.2) (.slice A270_1 ((rd_T31 l0_2 x40_2).f1).length c270_1)) (fun _ hk => hk.2) (.slice A270_2 ((rd_T31 l0_2 x40_2).f2).length c270_2)) (fun _ h_ => h_.1))) (Kd.R_base ho0) hb); replace BK259 := Aside0.mk (blk_below (g := gb259) (o := .cells #[.string a0_0, .slice A0_1 l0_1.length c0_1, .slice (some ad270) l0_2.length c0_2] 31 (0, 0)) (by (with_reducible repeat (first | refine blk_drewN ?_ _ | refine blk_drew ?_ | refine blk_alloc ?_ _)); refine blk_far ?_ NB259_271.out _; (with_reducible repeat (first | refine blk_drewN ?_ _ | refine blk_drew ?_ | refine blk_alloc ?_ _)); refine blk_far ?_ NB259_271.out _; (with_reducible repeat (first | refine blk_drewN ?_ _ | refine blk_drew ?_ | refine blk_alloc ?_ _)); refine blk_far ?_ NB259_271.out _; (with_reducible repeat (first | refine blk_drewN ?_ _ | refine blk_drew ?_ | refine blk_alloc ?_ _)); exact BK259.out) hb); replace BK271 := Aside0.mk (blk_below (g := gb271) (o := .cells #[.string ((rd_T31 l0_2 x40_2).f0), .slice A270_1 ((rd_T31 l0_2 x40_2).f1).length c270_1, .slice A270_2 ((rd_T31 l0_2 x40_2).f2).length c270_2] 31 (0, 0)) (by (with_reducible repeat (first | refine blk_drewN ?_ _ | refine blk_drew ?_ | refine blk_alloc ?_ _)); refine blk_put (cs := #[.string ((rd_T31 l0_2 x40_2).f0), .slice A270_1 ((rd_T31 l0_2 x40_2).f1).length c270_1, .slice none 0 0]) ?_ 2 _ rfl; (with_reducible repeat (first | refine blk_drewN ?_ _ | refine blk_drew ?_ | refine blk_alloc ?_ _)); refine blk_put (cs := #[.string ((rd_T31 l0_2 x40_2).f0), .slice none 0 0, .slice none 0 0]) ?_ 1 _ rfl; (with_reducible repeat (first | refine blk_drewN ?_ _ | refine blk_drew ?_ | refine blk_alloc ?_ _)); refine blk_put (cs := #[.string (⟨#[]⟩ : ByteArray), .slice none 0 0, .slice none 0 0]) ?_ 0 _ rfl; (with_reducible repeat (first | refine blk_drewN ?_ _ | refine blk_drew ?_ | refine blk_alloc ?_ _)); exact BK271.out) hb); replace HB := zw hb; clear hb; clear ho0; obtain ⟨Ao35, co35, eo35⟩ := Kd.R_slice HO274.out; subst eo35) | ((with_reducible refine gate_builtin (b := .append) (xs := #[.tmp 52, .tmp 53]) rfl ?_); at_builtin; refine Kd.R_append_rows Kd.string (w0 := w) w.heap.size rfl (.tmp 52) (.tmp 53) 54 9 (.string ⟨#[]⟩) 16 rfl Tryz.underlying54 info9 rfl (by decide) (by omega) u4 x4_2 t272 _ _ _ (fun k_ => some k_ ≠ (.slice Ao35 t272.length co35 : Value).ownBlock) (fun _ => False) rfl rfl ?aO ?aR (fun _ _ h => h) (fun _ h => h.elim) ?aF ?aB ?aS ?aL ?_; (case aR => repeat (first | exact (Kd.R_reads' HO274.out).2.2 | (with_reducible refine Kd.C_alloc ?_ _) | (with_reducible refine Kd.C_drewN ?_ _) | (with_reducible refine Kd.C_drew ?_))); (case aB => exact zB); (case aF => exact (fun k_ hk => Kd.fresh' (Kd.R_lt (Kd.R_below HO274.out zX)) k_ hk)); (case aO => exact (by (with_reducible repeat (first | apply Kd.R_alloc | apply Kd.R_drewN | apply Kd.R_drew)); exact Kd.R_mono HO_4.out (fun _ hk => hk.2))); (case aS => exact (below_size zB)); (case aL => have := LMc29.out; omega); intro v277 w34 ho hb hg hat; rw [← Ny276.out] at ho; have n0_ := Aside0.mk (blk_grown (g := gb259) (o := .cells #[.string a0_0, .slice A0_1 l0_1.length c0_1, .slice (some ad270) l0_2.length c0_2] 31 (0, 0)) (blk_below BK259.out zX) hg (Kd.R_ne HO_4.out BK259.out (by decide))); have n1_ := Aside0.mk (blk_grown (g := gb271) (o := .cells #[.string ((rd_T31 l0_2 x40_2).f0), .slice A270_1 ((rd_T31 l0_2 x40_2).f1).length c270_1, .slice A270_2 ((rd_T31 l0_2 x40_2).f2).length c270_2] 31 (0, 0)) (blk_below BK271.out zX) hg (Kd.R_ne HO_4.out BK271.out (by decide))); have n2_ := Aside0.mk (Kd.R_after (ok := (fun _ => True)) (Kd.R_below HO274.out zX) hg hat); have n3_ := Aside0.mk (hb); have n4_ := Aside0.mk (ho); clear BK259; clear BK271; clear HO274; clear HB; clear HO_4; have BK259 := n0_; have BK271 := n1_; have HO274 := n2_; have HB := n3_; have HO278 := n4_; clear n0_ n1_ n2_ n3_ n4_; clear ho hb hg hat))
         go_roundg k2
         case measure => have := HK1.out; have := HK2.out; omega
         case rel => exact ⟨(y276), (wrap64 (x40_2 + 1)), zS, H', ⟨by have := HK1.out; have := HK2.out; omega⟩, ⟨by (with_reducible repeat (first | apply Kd.R_alloc | apply Kd.R_drewN | apply Kd.R_drew)); exact Kd.R_mono HO278.out (fun _ hk => trivial)⟩, ⟨blk_below BK259.out zX⟩, ⟨zB⟩⟩
        ·simp only [Option.some.injEq, Prod.mk.injEq] at H; obtain ⟨rfl, rfl⟩ := H; have p270 := zQ (0 ≤ (x40_2 : Int)); have q270 := zQ (x40_2 < (l0_2.length : Int)); obtain ⟨ad270, A270_1, c270_1, A270_2, c270_2, e270, hx270_0, hx270_1, hx270_2, hl270_1, hi270_1, hl270_2, hi270_2⟩ := at_T31 HR0_2.out x40_2 p270 q270
         cases e270
         replace hx270_0 := zx HB hx270_0; replace hx270_1 := zx HB hx270_1; replace hx270_2 := zx HB hx270_2; have HR270_1 := Aside0.mk hi270_1; have HC270_1 := Aside0.mk hl270_1; clear hi270_1 hl270_1; have HR270_2 := Aside0.mk hi270_2; have HC270_2 := Aside0.mk hl270_2; clear hi270_2 hl270_2; replace p270 := eq_true p270; replace q270 := eq_true q270
         go_wp2_with (first | ((with_reducible refine gate_dst (N := 10) rfl ?_); refine zbox (N := 10) #[.string (⟨#[]⟩ : ByteArray), .slice none 0 0, .slice none 0 0] 31 (fun gb271 hg w36 hbox hb => ?_); replace HO_4 := Aside0.mk (Kd.R_below (Kd.R_below HO_4.out zX) hb); replace BK271 := Aside0.mk hbox; replace GE271 := zg w hg; replace HB := zw hb; replace NB259_271 := zn BK259 hg; replace NB271_259 := zm BK259 hg; replace BK259 := zb BK259 hb; clear hb hbox hg; have hnb37 := NB271_259.out; have hnc37 := NB259_271.out; obtain ⟨hcz38_0, hcz38_1, hcz38_2, hfz38_0, hfz38_1, hfz38_2⟩ := zk3 BK271) | ((with_reducible refine gate_callee (f := 21) rfl ?_); refine goesL_ (some 46) rfl rfl Tryz.func21 (by kernel_rfl) rfl #[.agg #[.string ((rd_T31 l0_2 x40_2).f0), .slice A270_1 ((rd_T31 l0_2 x40_2).f1).length c270_1, .slice A270_2 ((rd_T31 l0_2 x40_2).f2).length c270_2]] rfl zA ?_; (with_reducible refine (ih k2 (by have := HK1.out; have := HK2.out; omega) ((rd_T31 l0_2 x40_2).f0) _ _ ((rd_T31 l0_2 x40_2).f1) _ _ ((rd_T31 l0_2 x40_2).f2) t272 t275 _ zG ?side1 ?side2 ?side3 ?side4 A27.out).mono ?_); (case side1 => exact Kd.C_below HR270_1.out zB); (case side2 => exact HC270_1.out); (case side3 => exact Kd.C_below HR270_2.out zB); (case side4 => exact HC270_2.out); rintro e w39 ⟨v273, rfl, ho0, hb⟩; refine ⟨_, rfl, ?_⟩; replace HO274 := Aside0.mk (Kd.R_lower (Kd.R_new' ho0 (Kd.R_lt (by (with_reducible repeat (first | apply Kd.R_alloc | apply Kd.R_drewN | apply Kd.R_drew)); exact (Kd.R_mono (Kd.R_far (p := ⟨gb271, 2, none⟩) (Kd.R_far (p := ⟨gb271, 1, none⟩) (Kd.R_far (p := ⟨gb271, 0, none⟩) (Kd.R_types HO_4.out BK271.out (by decide)) (fun _ hk => hk.2) (.string ((rd_T31 l0_2 x40_2).f0))) (fun _ hk => hk.2) (.slice A270_1 ((rd_T31 l0_2 x40_2).f1).length c270_1)) (fun _ hk => hk.2) (.slice A270_2 ((rd_T31 l0_2 x40_2).f2).length c270_2)) (fun _ h_ => h_.1))))) (below_size zB)); replace HO_4 := Aside0.mk (Kd.R_elder' (by (with_reducible repeat (first | apply Kd.R_alloc | apply Kd.R_drewN | apply Kd.R_drew)); exact (Kd.R_mono (Kd.R_far (p := ⟨gb271, 2, none⟩) (Kd.R_far (p := ⟨gb271, 1, none⟩) (Kd.R_far (p := ⟨gb271, 0, none⟩) (Kd.R_types HO_4.out BK271.out (by decide)) (fun _ hk => hk.2) (.string ((rd_T31 l0_2 x40_2).f0))) (fun _ hk => hk.2) (.slice A270_1 ((rd_T31 l0_2 x40_2).f1).length c270_1)) (fun _ hk => hk.2) (.slice A270_2 ((rd_T31 l0_2 x40_2).f2).length c270_2)) (fun _ h_ => h_.1))) (Kd.R_base ho0) hb); replace BK259 := Aside0.mk (blk_below (g := gb259) (o := .cells #[.string a0_0, .slice A0_1 l0_1.length c0_1, .slice (some ad270) l0_2.length c0_2] 31 (0, 0)) (by (with_reducible repeat (first | refine blk_drewN ?_ _ | refine blk_drew ?_ | refine blk_alloc ?_ _)); refine blk_far ?_ NB259_271.out _; (with_reducible repeat (first | refine blk_drewN ?_ _ | refine blk_drew ?_ | refine blk_alloc ?_ _)); refine blk_far ?_ NB259_271.out _; (with_reducible repeat (first | refine blk_drewN ?_ _ | refine blk_drew ?_ | refine blk_alloc ?_ _)); refine blk_far ?_ NB259_271.out _; (with_reducible repeat (first | refine blk_drewN ?_ _ | refine blk_drew ?_ | refine blk_alloc ?_ _)); exact BK259.out) hb); replace BK271 := Aside0.mk (blk_below (g := gb271) (o := .cells #[.string ((rd_T31 l0_2 x40_2).f0), .slice A270_1 ((rd_T31 l0_2 x40_2).f1).length c270_1, .slice A270_2 ((rd_T31 l0_2 x40_2).f2).length c270_2] 31 (0, 0)) (by (with_reducible repeat (first | refine blk_drewN ?_ _ | refine blk_drew ?_ | refine blk_alloc ?_ _)); refine blk_put (cs := #[.string ((rd_T31 l0_2 x40_2).f0), .slice A270_1 ((rd_T31 l0_2 x40_2).f1).length c270_1, .slice none 0 0]) ?_ 2 _ rfl; (with_reducible repeat (first | refine blk_drewN ?_ _ | refine blk_drew ?_ | refine blk_alloc ?_ _)); refine blk_put (cs := #[.string ((rd_T31 l0_2 x40_2).f0), .slice none 0 0, .slice none 0 0]) ?_ 1 _ rfl; (with_reducible repeat (first | refine blk_drewN ?_ _ | refine blk_drew ?_ | refine blk_alloc ?_ _)); refine blk_put (cs := #[.string (⟨#[]⟩ : ByteArray), .slice none 0 0, .slice none 0 0]) ?_ 0 _ rfl; (with_reducible repeat (first | refine blk_drewN ?_ _ | refine blk_drew ?_ | refine blk_alloc ?_ _)); exact BK271.out) hb); replace HB := zw hb; clear hb; clear ho0))
         go_ret2; exact ⟨_, zE, by first | exact Kd.R_nil _ _ _ _ _ | exact Kd.N_nil _ _ _ _ _ | exact Kd.V_nil _ _ _ _ _ | exact Kd.Q_nil _ _ _ _ _ | exact Kd.S_nil _ _ _ _ _, zB⟩
       ·replace H := zJ H; obtain ⟨c40, H⟩ := H; have c40b0 := eq_true c40; have c40b1 : decide (4 + a0_0.size ≤ 9223372036854775807) = true := decide_eq_true c40
        try have c40b2 : (9223372036854775807 < 4 + a0_0.size) = False := eq_false (Nat.not_lt.2 c40)
        replace H := zJ H; obtain ⟨c41, H⟩ := H; have LMc41 := Aside0.mk c41; clear c41; obtain ⟨y279, hy279⟩ : ∃ y_ : List ByteArray, y_ = (x4_2 ++ [(⟨#[69, 78, 68, 58]⟩ : ByteArray) ++ a0_0]) := ⟨_, rfl⟩; replace H : (some (y279, 0)) = some (r1, r2) := by first | (rw [hy279]; with_reducible exact H) | (have H2_ := (Option.bind_some _ _).symm.trans H; rw [hy279]; with_reducible exact H2_) | (have H2_ := (Option.bind_some _ _).symm.trans H; with_reducible exact H2_) | with_reducible exact H | (rw [hy279]; exact H) | exact H
        have Ny279 := Aside0.mk hy279; clear hy279; simp only [Option.some.injEq, Prod.mk.injEq] at H; obtain ⟨rfl, rfl⟩ := H; obtain ⟨hcz42_0, hcz42_1, hcz42_2, hfz42_0, hfz42_1, hfz42_2⟩ := zk3 BK259
        go_wp2_with (first | ((with_reducible refine gate_builtin (b := .append) (xs := #[.tmp 56, .tmp 60]) rfl ?_); at_builtin; refine Kd.R_append Kd.string (w0 := w) w.heap.size rfl (.tmp 56) (.tmp 60) 54 9 (.string ⟨#[]⟩) 16 rfl Tryz.underlying54 info9 rfl (by decide) (by omega) u4 x4_2 ((⟨#[69, 78, 68, 58]⟩ : ByteArray) ++ a0_0) [.string ((⟨#[69, 78, 68, 58]⟩ : ByteArray) ++ a0_0)] (fun _ => True) (fun _ => False) rfl rfl ?aP (fun _ hk => hk.elim) ?aF ?aO ?aB ?aS ?aL ?_; (case aP => exact rfl); (case aB => exact zB); (case aF => exact (fun _ _ => trivial)); (case aO => exact (Kd.R_below HO_4.out zX)); (case aS => exact (below_size zB)); (case aL => have := LMc41.out; omega); intro v280 w43 ho hb hg hat; rw [← Ny279.out] at ho; have n0_ := Aside0.mk (blk_grown (g := gb259) (o := .cells #[.string a0_0, .slice A0_1 l0_1.length c0_1, .slice A0_2 l0_2.length c0_2] 31 (0, 0)) (blk_below BK259.out zX) hg (Kd.R_ne HO_4.out BK259.out (by decide))); have n1_ := Aside0.mk (hb); have n2_ := Aside0.mk (ho); clear BK259; clear HB; clear HO_4; have BK259 := n0_; have HB := n1_; have HO281 := n2_; clear n0_ n1_ n2_; clear ho hb hg hat))
        go_ret2; exact ⟨_, zE, by (with_reducible repeat (first | apply Kd.R_alloc | apply Kd.R_drewN | apply Kd.R_drew)); exact HO281.out, zB⟩
 ·exact zH H
end Go.Proofs.YtdojmdbaiddkgaaGreatDoor.Print
end
section
set_option linter.unusedVariables false
set_option linter.unusedSimpArgs false
namespace Go.Proofs.YtdojmdbaiddkgaaGreatDoor.Print
open Go.RowKit Go.Proofs.YtdojmdbaiddkgaaGreatDoorW.PrintWords Go.Proofs.YtdojmdbaiddkgaaGreatDoorW.PrintLast Go.Proofs.YtdojmdbaiddkgaaGreatDoorW.PrintMore
/-- How many bytes of l go into room bytes, cut between code points. -/
def takeN : Nat → List UInt8 → Nat → Nat
  | 0, _, _ => 0
  | k + 1, l, room => if l = [] then 0 else if room < (Lib.decodeL l).2 then 0 else (Lib.decodeL l).2 + takeN k (l.drop (Lib.decodeL l).2) (room - (Lib.decodeL l).2)
/-- A line, folded. -/
def oneL : Nat → List UInt8 → Nat → List UInt8
  | 0, _, _ => []
  | k + 1, l, room => if l = [] then [] else
      l.take (takeN l.length l room) ++ [13, 10] ++ (if l.drop (takeN l.length l room) = [] then [] else [32]) ++ oneL k (l.drop (takeN l.length l room)) 74
theorem decGo (t : ByteArray) (h : t.size ≠ 0) : Lib.decodeGo t = Lib.decodeL t.data.toList := by
  unfold Lib.decodeGo
  rw [if_neg h]; rfl
theorem ext_list (s : ByteArray) (n : Nat) : (s.extract n s.size).data.toList = s.data.toList.drop n := by
  rw [ByteArray.data_extract, Array.toList_extract, List.extract_eq_take_drop]
  exact List.take_of_length_le (by rw [List.length_drop, Array.length_toList]; exact Nat.le_refl _)
theorem decGo_ext (s : ByteArray) (n : Nat) (h : n < s.size) : Lib.decodeGo (s.extract n s.size) = Lib.decodeL (s.data.toList.drop n) := by
  rw [decGo _ (by rw [ByteArray.size_extract]; omega), ext_list]
theorem dL_pos (l : List UInt8) : 1 ≤ (Lib.decodeL l).2 := Lib.decodeL_width l
theorem dL_le4 (l : List UInt8) (hne : l ≠ []) : (Lib.decodeL l).2 ≤ 4 := by
  have := Lib.decodeGo_le4 ⟨l.toArray⟩
  rw [decGo _ (by show l.toArray.size ≠ 0; rw [List.size_toArray]; exact fun h => hne (List.length_eq_zero_iff.1 h))] at this
  exact this
theorem takeN_fuel : ∀ (k m : Nat) (l : List UInt8) (r : Nat), l.length ≤ k → l.length ≤ m → takeN k l r = takeN m l r
  | 0, m, l, r, hk, hm => by
    have : l = [] := List.length_eq_zero_iff.1 (by omega)
    subst this
    cases m <;> simp [takeN]
  | k + 1, 0, l, r, hk, hm => by
    have : l = [] := List.length_eq_zero_iff.1 (by omega)
    subst this
    simp [takeN]
  | k + 1, m + 1, l, r, hk, hm => by
    unfold takeN
    have h1 := dL_pos l
    by_cases hne : l = []
    · rw [if_pos hne, if_pos hne]
    · have h2 : 0 < l.length := List.length_pos_iff.2 hne
      rw [takeN_fuel k m (l.drop (Lib.decodeL l).2) _ (by rw [List.length_drop]; omega) (by rw [List.length_drop]; omega)]
def takeT (l : List UInt8) (r : Nat) : Nat := takeN l.length l r
theorem takeT_nil (r : Nat) : takeT [] r = 0 := rfl
theorem takeT_step (l : List UInt8) (r : Nat) (hne : l ≠ []) : takeT l r = if r < (Lib.decodeL l).2 then 0 else (Lib.decodeL l).2 + takeT (l.drop (Lib.decodeL l).2) (r - (Lib.decodeL l).2) := by
  have h2 : 0 < l.length := List.length_pos_iff.2 hne
  have h1 := dL_pos l
  obtain ⟨k, hk⟩ : ∃ k, l.length = k + 1 := ⟨l.length - 1, by omega⟩
  unfold takeT
  rw [hk, takeN, if_neg hne, takeN_fuel k (l.drop (Lib.decodeL l).2).length _ _ (by rw [List.length_drop]; omega) (Nat.le_refl _)]
theorem takeT_le : ∀ (n : Nat) (l : List UInt8) (r : Nat), l.length ≤ n → takeT l r ≤ l.length ∧ takeT l r ≤ r
  | n, [], r, _ => by simp [takeT_nil]
  | 0, a :: t, r, h => by simp at h
  | n + 1, a :: t, r, h => by
    have hne : a :: t ≠ [] := by simp
    have h1 := dL_pos (a :: t)
    have h2 := Lib.decodeL_le (a :: t) hne
    rw [takeT_step _ _ hne]
    split
    · omega
    · have := takeT_le n ((a :: t).drop (Lib.decodeL (a :: t)).2) (r - (Lib.decodeL (a :: t)).2) (by rw [List.length_drop]; omega)
      rw [List.length_drop] at this
      omega
theorem takeT_pos (l : List UInt8) (r : Nat) (hne : l ≠ []) (hr : 4 ≤ r) : 1 ≤ takeT l r := by
  have h1 := dL_pos l
  have h2 := dL_le4 l hne
  rw [takeT_step _ _ hne, if_neg (by omega)]; omega
theorem dat_append (a b : ByteArray) : (a ++ b).data.toList = a.data.toList ++ b.data.toList := by
  rw [ByteArray.data_append, Array.toList_append]
def oneT (l : List UInt8) (r : Nat) : List UInt8 := oneL l.length l r
theorem oneL_fuel : ∀ (k m : Nat) (l : List UInt8) (r : Nat), 4 ≤ r → l.length ≤ k → l.length ≤ m → oneL k l r = oneL m l r
  | 0, m, l, r, hr, hk, hm => by
    have : l = [] := List.length_eq_zero_iff.1 (by omega)
    subst this
    cases m <;> simp [oneL]
  | k + 1, 0, l, r, hr, hk, hm => by
    have : l = [] := List.length_eq_zero_iff.1 (by omega)
    subst this
    simp [oneL]
  | k + 1, m + 1, l, r, hr, hk, hm => by
    unfold oneL
    by_cases hne : l = []
    · rw [if_pos hne, if_pos hne]
    · have h2 : 0 < l.length := List.length_pos_iff.2 hne
      have h1 : 1 ≤ takeN l.length l r := takeT_pos l r hne hr
      rw [if_neg hne, if_neg hne, oneL_fuel k m (l.drop (takeN l.length l r)) 74 (by omega) (by rw [List.length_drop]; omega) (by rw [List.length_drop]; omega)]
theorem oneT_nil (r : Nat) : oneT [] r = [] := rfl
theorem oneT_step (l : List UInt8) (r : Nat) (hne : l ≠ []) (hr : 4 ≤ r) : oneT l r = l.take (takeT l r) ++ [13, 10] ++ (if l.drop (takeT l r) = [] then [] else [32]) ++ oneT (l.drop (takeT l r)) 74 := by
  have h2 : 0 < l.length := List.length_pos_iff.2 hne
  have h1 := takeT_pos l r hne hr
  obtain ⟨k, hk⟩ : ∃ k, l.length = k + 1 := ⟨l.length - 1, by omega⟩
  unfold oneT
  rw [hk, oneL, if_neg hne]
  show l.take (takeT l r) ++ [13, 10] ++ (if l.drop (takeT l r) = [] then [] else [32]) ++ oneL k (l.drop (takeT l r)) 74 = _
  rw [oneL_fuel k (l.drop (takeT l r)).length _ 74 (by omega) (by rw [List.length_drop]; omega) (Nat.le_refl _)]
theorem oneT_len : ∀ (n : Nat) (l : List UInt8) (r : Nat), 4 ≤ r → l.length ≤ n → (oneT l r).length ≤ 4 * l.length
  | n, [], r, _, _ => by simp [oneT_nil]
  | 0, a :: t, r, _, h => by simp at h
  | n + 1, a :: t, r, hr, h => by
    have hne : a :: t ≠ [] := by simp
    have h1 := takeT_pos (a :: t) r hne hr
    have h2 := (takeT_le _ (a :: t) r (Nat.le_refl _)).1
    have ih := oneT_len n ((a :: t).drop (takeT (a :: t) r)) 74 (by omega) (by rw [List.length_drop]; omega)
    rw [oneT_step _ _ hne hr]
    rw [List.length_drop] at ih
    have h3 : (if (a :: t).drop (takeT (a :: t) r) = [] then ([] : List UInt8) else [32]).length ≤ 1 := by split <;> simp
    simp only [List.length_append, List.length_take, List.length_cons, List.length_nil] at *
    omega
theorem GG.belowB {B : Nat} {w w' : World} (h : GG w) (h2 : 2 ≤ B) (hb : Below B w w') : GG w' :=
  ⟨⟨fun c hc => (hb.cell (by show 0 < B; omega)).trans (h.u8.1 c hc), fun i hi => ⟨(hb.cell (by show 1 < B; omega)).trans (h.u8.2 i hi).1, (hb.cell (by show 1 < B; omega)).trans (h.u8.2 i hi).2⟩⟩⟩
theorem crlf_size2 (M : List UInt8) (t u : ByteArray) (h : M.length + 4 * t.size ≤ 1004000000) (hu : u.size = 2) : M.length + (t ++ u).size ≤ 140737488355328 := by
  rw [ByteArray.size_append, hu]; omega
set_option maxHeartbeats 4000000 in
set_option maxRecDepth 100000 in
theorem one_walk (B b : Nat) (L : List UInt8) (s : ByteArray) (w : World) (hG : GG w) (hH : Bld.Has B b L w) (hB2 : 2 ≤ B) (hBw : B ≤ w.heap.size) (hs : s.size ≤ 1000000) (hL : L.length ≤ 1000000000) :
    Calls Tryz.prog 40 #[.pointer (some ⟨b, 0, none⟩), .string s] w fun e w' => e = .returned (.tuple #[]) ∧ Bld.Has B b (L ++ oneT s.data.toList 75) w' ∧ Below B w w' := by
  go_enter Tryz.func40, Tryz.ntmps40
  go_wp2
  go_loopg [1, 4] s.size (fun g v1 v4 wr => ∃ (t : ByteArray) (room : Nat) (M : List UInt8), v1 = .string t ∧ v4 = .int .i64 room ∧ 4 ≤ room ∧ room ≤ 75 ∧ t.size ≤ s.size ∧ Aside0 (t.size ≤ g) ∧ Aside0 (M ++ oneT t.data.toList room = L ++ oneT s.data.toList 75) ∧ Aside0 (M.length + 4 * t.size ≤ 1004000000) ∧ Aside0 (Bld.Has B b M wr) ∧ Aside0 (Below B w wr))
  case atStart => exact ⟨s, 75, L, rfl, rfl, by omega, by omega, by omega, ⟨by omega⟩, ⟨rfl⟩, ⟨by omega⟩, ⟨hH⟩, ⟨Below.refl _ _⟩⟩
  case round =>
    obtain ⟨t, room, M, rfl, rfl, hr4, hr75, hts, HG, HE, HM, HH, HB⟩ := hrel
    by_cases ht : t.size = 0
    · have hd : decide (0 < t.size) = false := decide_eq_false (by omega)
      go_wp2
      go_end0
      have ht2 : t.data.toList = [] := by apply List.length_eq_zero_iff.1; rw [Array.length_toList]; exact ht
      have he := HE.out
      rw [ht2, oneT_nil, List.append_nil] at he
      exact ⟨rfl, he ▸ HH.out, HB.out⟩
    cases gk with
    | zero => have := HG.out; omega
    | succ g =>
    have hd : decide (0 < t.size) = true := decide_eq_true (by omega)
    go_wp2
    have hBr := HB.out.size
    obtain ⟨N, hN⟩ : ∃ N, takeT t.data.toList room = N := ⟨_, rfl⟩
    have hne : t.data.toList ≠ [] := fun e => ht (by have := congrArg List.length e; rw [Array.length_toList] at this; exact this)
    have hN1 := takeT_pos t.data.toList room hne hr4
    have hN2 := (takeT_le _ t.data.toList room (Nat.le_refl _)).1
    rw [Array.length_toList] at hN2
    rw [hN] at hN1 hN2
    have hN2' : N ≤ t.size := hN2
    clear hN2
    go_loopg [5] t.size (fun g v5 wr2 => ∃ n : Nat, v5 = .int .i64 n ∧ n ≤ t.size ∧ n ≤ room ∧ Aside0 (t.size ≤ n + g) ∧ Aside0 (n + takeT (t.data.toList.drop n) (room - n) = N) ∧ Aside0 (Bld.Has B b M wr2) ∧ Aside0 (Below B w wr2))
    case atStart => exact ⟨0, rfl, by omega, by omega, ⟨by omega⟩, ⟨by rw [List.drop_zero, Nat.zero_add, Nat.sub_zero]; exact hN⟩, HH, HB⟩
    case round =>
      obtain ⟨n, rfl, hnt, hnr, HI, HT, HH2, HB2⟩ := hrel
      by_cases hn : n = t.size
      · subst hn
        have hd2 : decide (t.size < t.size) = false := decide_eq_false (by omega)
        have hBw2 := HB2.out.size
        have HBB : Aside0 (B ≤ wr.heap.size) := ⟨by omega⟩
        clear hBw2
        go_wp2_with (go_at_call 63; refine (Bld.ws _ _ _ _ _ HH2.out (crlf_size2 _ _ _ HM.out rfl) HBB.out).mono ?_; rintro e w3 ⟨rfl, h1, h2, h3⟩)
        go_roundg g
        case measure => have := HG.out; omega
        case rel =>
          have hN3 : N = t.size := by have := HT.out; rw [List.drop_of_length_le (by rw [Array.length_toList]; exact Nat.le_refl _), takeT_nil] at this; omega
          refine ⟨ByteArray.empty, 74, M ++ (t.data.toList ++ [13, 10]), rfl, rfl, by omega, by omega, by show 0 ≤ _; omega, ⟨by show 0 ≤ _; omega⟩, ⟨?_⟩, ⟨?_⟩, ⟨?_⟩, ⟨HB2.out.trans h2⟩⟩
          · have he := HE.out
            rw [oneT_step _ _ hne hr4, hN, hN3, List.take_of_length_le (by rw [Array.length_toList]; exact Nat.le_refl _), List.drop_of_length_le (by rw [Array.length_toList]; exact Nat.le_refl _), if_pos rfl, oneT_nil, List.append_nil, List.append_nil] at he
            show _ ++ oneT [] 74 = _
            rw [oneT_nil, List.append_nil]; exact he
          · have := HM.out
            have e : t.data.toList.length = t.size := by rw [Array.length_toList]; rfl
            show _ + 4 * 0 ≤ _
            simp only [List.length_append, List.length_cons, List.length_nil, e]; omega
          · rw [dat_append] at h1; exact h1
      · have hlt : n < t.size := by omega
        have hd2 : decide (n < t.size) = true := decide_eq_true hlt
        have hK0 := decGo_ext t n hlt
        have hk1 := dL_pos (t.data.toList.drop n)
        have hne2 : t.data.toList.drop n ≠ [] := by
          intro e; have := congrArg List.length e; rw [List.length_drop, Array.length_toList] at this; have e2 : t.data.size = t.size := rfl; simp only [List.length_nil] at this; omega
        have hk2 := Lib.decodeL_le (t.data.toList.drop n) hne2
        have hk4 := dL_le4 (t.data.toList.drop n) hne2
        have HS := Aside0.mk (takeT_step (t.data.toList.drop n) (room - n) hne2)
        have e9 : (t.data.toList.drop n).length = t.size - n := by rw [List.length_drop, Array.length_toList]; rfl
        rw [e9] at hk2
        clear e9
        obtain ⟨r, k, hK⟩ : ∃ r k, Lib.decodeL (t.data.toList.drop n) = (r, k) := ⟨_, _, rfl⟩
        rw [hK] at hK0 hk1 hk2 hk4
        rw [hK] at HS
        simp only at hk1 hk2 hk4 HS
        have HK := Aside0.mk hK0
        clear hK0 hK hne hne2
        have hGw := hG.belowB hB2 HB2.out
        by_cases hbk : room < n + k
        · have hd3 : decide ((room : Int) < (n : Int) + (k : Int)) = true := decide_eq_true (by omega)
          have hnN : N = n := by have h1 := HT.out; rw [HS.out, if_pos (by omega)] at h1; omega
          have hBw2 := HB2.out.size
          have HBB : Aside0 (B ≤ wr.heap.size) := ⟨by omega⟩
          have hxs : (t.extract 0 n).size = n := by rw [ByteArray.size_extract]; omega
          have HM3 : Aside0 (M.length + 4 * (t.extract 0 n).size ≤ 1004000000) := ⟨by rw [hxs]; have := HM.out; omega⟩
          go_wp2_with (go_at_call 67; refine (Tryz.utf8_DecodeRuneInString _ _ hGw.u8).mono ?_; rintro e w3 ⟨rfl, hb3⟩; rw [HK.out])
          have hBw3 := hb3.size
          have HBB3 : Aside0 (B ≤ w3.heap.size) := ⟨by omega⟩
          have HH3 := HH2.out.below hb3
          go_at_call 63
          refine (Bld.ws _ _ _ _ _ HH3 (crlf_size2 _ _ _ HM3.out rfl) HBB3.out).mono ?_
          rintro e w4 ⟨rfl, h1, h2, h3⟩
          have hBw4 := h2.size
          have HBB4 : Aside0 (B ≤ w4.heap.size) := ⟨by omega⟩
          have HL4 : Aside0 ((M ++ (t.extract 0 n ++ ⟨#[13, 10]⟩ : ByteArray).data.toList).length + 1 ≤ 140737488355328) := ⟨by
            rw [List.length_append]
            have e1 : (t.extract 0 n ++ ⟨#[13, 10]⟩ : ByteArray).data.toList.length = n + 2 := by
              rw [Array.length_toList]
              show (t.extract 0 n ++ ⟨#[13, 10]⟩ : ByteArray).size = _
              rw [ByteArray.size_append, hxs]; rfl
            rw [e1]; have := HM.out; omega⟩
          have H1 := Aside0.mk h1
          have H2 := Aside0.mk h2
          have H3 := Aside0.mk hb3
          clear h1 h2 h3 hb3 HH3
          go_wp2_with (go_at_call 65; refine (Bld.wb _ _ _ _ 32 rfl _ H1.out HL4.out HBB4.out).mono ?_; rintro e w5 ⟨rfl, k1, k2, k3⟩)
          go_roundg g
          case measure => have := HG.out; omega
          case rel =>
            have e0 : (t.extract n t.size).size = t.size - n := by rw [ByteArray.size_extract]; omega
            have hB3 : Below B w w3 := HB2.out.trans (H3.out.mono (by have := HB2.out.size; omega))
            refine ⟨t.extract n t.size, 74, M ++ (t.data.toList.take n ++ [13, 10]) ++ [32], rfl, rfl, by omega, by omega, by omega, ⟨by have := HG.out; omega⟩, ⟨?_⟩, ⟨?_⟩, ⟨?_⟩, ⟨(hB3.trans H2.out).trans k2⟩⟩
            · have hne : t.data.toList ≠ [] := fun e => ht (by have := congrArg List.length e; rw [Array.length_toList] at this; exact this)
              have hne2 : t.data.toList.drop n ≠ [] := by
                intro e; have := congrArg List.length e; rw [List.length_drop, Array.length_toList] at this; have e2 : t.data.size = t.size := rfl; simp only [List.length_nil] at this; omega
              have he := HE.out
              rw [oneT_step _ _ hne hr4, hN, hnN, if_neg hne2] at he
              rw [ext_list, ← he]
              simp only [List.append_assoc]
            · have := HM.out
              have e : t.data.toList.length = t.size := by rw [Array.length_toList]; rfl
              rw [e0]
              simp only [List.length_append, List.length_cons, List.length_nil, List.length_take, e]; omega
            · rw [dat_append] at k1
              have e1 : (t.extract 0 n).data.toList = t.data.toList.take n := by
                rw [ByteArray.data_extract, Array.toList_extract, List.extract_eq_take_drop, List.drop_zero, Nat.sub_zero]
              rw [e1] at k1
              exact k1
        · have hd3 : decide ((room : Int) < (n : Int) + (k : Int)) = false := decide_eq_false (by omega)
          cases gk with
          | zero => exfalso; have := HI.out; omega
          | succ g2 =>
          go_wp2_with (go_at_call 67; refine (Tryz.utf8_DecodeRuneInString _ _ hGw.u8).mono ?_; rintro e w3 ⟨rfl, hb3⟩; rw [HK.out])
          go_roundg g2
          case measure => have := HI.out; omega
          case rel =>
            refine ⟨n + k, by go_num, by omega, by omega, ⟨by have := HI.out; omega⟩, ⟨?_⟩, ⟨HH2.out.below hb3⟩, ⟨HB2.out.trans (hb3.mono (by have := HB2.out.size; omega))⟩⟩
            have h1 := HT.out
            rw [HS.out, if_neg (by omega), List.drop_drop] at h1
            rw [show room - (n + k) = room - n - k by omega]
            omega
end Go.Proofs.YtdojmdbaiddkgaaGreatDoor.Print
end
section
set_option linter.unusedVariables false
set_option linter.unusedSimpArgs false
namespace Go.Proofs.YtdojmdbaiddkgaaGreatDoor.Print
open Go.RowKit Go.Proofs.YtdojmdbaiddkgaaGreatDoorW.PrintWords Go.Proofs.YtdojmdbaiddkgaaGreatDoorW.PrintLast Go.Proofs.YtdojmdbaiddkgaaGreatDoorW.PrintMore
/-- A line that can't be folded. -/
def badF (s : ByteArray) : Bool := s.data.toList.isEmpty || s.data.toList.getD 0 0 == 32 || s.data.toList.getD 0 0 == 9 || Lib.containsAny s.data.toList [13, 10]
def foldR : List ByteArray → List UInt8 → ByteArray × Int
  | [], acc => if acc.length > 20000 then (⟨#[]⟩, 4) else (⟨acc.toArray⟩, 0)
  | s :: t, acc => if s.size > 2000 ∨ acc.length > 20000 then (⟨#[]⟩, 4) else foldR t (acc ++ oneT s.data.toList 75)
def foldA (l : List ByteArray) : ByteArray × Int := if l.any badF = true then (⟨#[]⟩, 5) else foldR l []
def fold_Fold.f (l0 : List ByteArray) : Option (ByteArray × Int) := if (∀ x ∈ l0, x.size < 4294967281) then some (foldA l0) else none
theorem GG.two {w : World} (h : GG w) : 2 ≤ w.heap.size := by
  have h1 := (h.u8.2 0 (by omega)).1
  rcases Nat.lt_or_ge 1 w.heap.size with h' | h'
  · exact h'
  · simp [World.cell?, Array.getElem?_eq_none h'] at h1
theorem goes_on (c : UInt8) : fold_goesOn.f c.toNat = some (c == 32 || c == 9) := by
  unfold fold_goesOn.f
  by_cases h : c = 32
  · subst h; rfl
  · have e1 : (c == 32) = false := beq_eq_false_iff_ne.2 h
    rw [if_neg (fun e => h (by apply UInt8.toNat_inj.1; have : c.toNat = 32 := by omega
                               rw [this]; rfl)), e1]
    by_cases h9 : c = 9
    · subst h9; rfl
    · have e2 : (c == 9) = false := beq_eq_false_iff_ne.2 h9
      have e3 : ((c.toNat : Int) == 9) = false := beq_eq_false_iff_ne.2 (fun e => h9 (by apply UInt8.toNat_inj.1; have : c.toNat = 9 := by omega
                                                                                         rw [this]; rfl))
      rw [e2, e3]; rfl
theorem any_take (l : List ByteArray) (k : Nat) (h : (l.take k).any badF = true) : l.any badF = true := by
  obtain ⟨x, hx, hb⟩ := List.any_eq_true.1 h
  exact List.any_eq_true.2 ⟨x, List.mem_of_mem_take hx, hb⟩
theorem foldA_bad (l : List ByteArray) (h : l.any badF = true) : foldA l = (⟨#[]⟩, 5) := by unfold foldA; rw [if_pos h]
set_option maxHeartbeats 1000000 in
set_option maxRecDepth 100000 in
theorem fold_walk (A0 : Option Addr) (c0 : Nat) (l0 : List ByteArray) (w : World) (hG : GG w) (hr0 : Kd.C Kd.string w A0 l0.length l0) (hc0 : l0.length ≤ c0) (hs : ∀ x ∈ l0, x.size < 4294967281) :
    Calls Tryz.prog 22 #[.slice A0 l0.length c0] w fun e w' => e = .returned (.tuple #[.string (foldA l0).1, .int .i64 (foldA l0).2]) ∧ Below w.heap.size w w' := by
  have HR := Aside0.mk hr0
  have HC := Aside0.mk hc0
  have HS := Aside0.mk hs
  clear hr0 hc0 hs
  go_enter Tryz.func22, Tryz.ntmps22
  go_wp2
  go_loopg [11] l0.length (fun g v11 wr => ∃ i : Nat, v11 = .int .i64 i ∧ i ≤ l0.length ∧ Aside0 (l0.length ≤ i + g) ∧ Aside0 ((l0.take i).any badF = false) ∧ Aside0 (Below w.heap.size w wr))
  case atStart => exact ⟨0, by go_num, by omega, ⟨by omega⟩, ⟨rfl⟩, ⟨Below.refl _ _⟩⟩
  case round =>
    obtain ⟨i, rfl, hi, HI, HA, HB⟩ := hrel
    by_cases hlt : i < l0.length
    · obtain ⟨ad, rfl, hcell⟩ := Kd.at_string (Kd.C_below HR.out HB.out) (i : Int) (by omega) (by omega)
      have hxm : rdOf ByteArray.empty l0 (i : Int) ∈ l0 := by
        unfold rdOf; rw [Int.toNat_natCast, List.getD_eq_getElem?_getD, List.getElem?_eq_getElem hlt]; exact List.getElem_mem hlt
      have hxs := HS.out _ hxm
      have HX : Aside0 ((l0.take (i + 1)).any badF = badF (rdOf ByteArray.empty l0 (i : Int))) := ⟨by
        have e : rdOf ByteArray.empty l0 (i : Int) = l0[i] := by unfold rdOf; rw [Int.toNat_natCast, List.getD_eq_getElem?_getD, List.getElem?_eq_getElem hlt]; rfl
        rw [e, List.take_succ_eq_append_getElem hlt, List.any_append, HA.out]; simp⟩
      rw [Int.toNat_natCast] at hcell
      clear hxm
      generalize rdOf ByteArray.empty l0 (i : Int) = x at *
      have hd : decide (i < l0.length) = true := decide_eq_true hlt
      by_cases hx : x.size = 0
      · have hx0 : x = ⟨#[]⟩ := by
          cases x with
          | mk d => congr 1; exact Array.eq_empty_of_size_eq_zero hx
        subst hx0
        have hA := foldA_bad l0 (any_take l0 (i + 1) (by rw [HX.out]; rfl))
        go_wp2
        go_ret2
        exact ⟨by rw [hA]; rfl, HB.out⟩
      · have hc0 : 0 < x.size := by omega
        obtain ⟨c, hc⟩ : ∃ c : UInt8, x[0] = c := ⟨_, rfl⟩
        have hd2 : (x == (⟨#[]⟩ : ByteArray)) = false := by
          show (x.data == #[]) = false
          exact beq_eq_false_iff_ne.2 (fun e => hx (by show x.data.size = 0; rw [e]; rfl))
        have hgo := goes_on c
        have hx0 : x.data.toList.getD 0 0 = c := by
          rw [← hc, List.getD_eq_getElem?_getD, List.getElem?_eq_getElem (by rw [Array.length_toList]; exact hc0)]; rfl
        have hxe : x.data.toList.isEmpty = false := by
          cases h : x.data.toList with
          | nil => exact absurd (by have := congrArg List.length h; rw [Array.length_toList] at this; exact this) hx
          | cons a t => rfl
        have hsz := HB.out.size
        have hxe2 : x.toList.isEmpty = false := by rw [Lib.toList_data]; exact hxe
        by_cases hg9 : (c == 32 || c == 9) = true
        · have hA := foldA_bad l0 (any_take l0 (i + 1) (by rw [HX.out]; unfold badF; rw [hx0, hxe, Bool.false_or, hg9, Bool.true_or]))
          rw [hg9] at hgo
          go_wp2_with (go_at_call 37; refine (fold_goesOn.calls _ _ _ (hG.below HB.out) hgo).mono ?_; rintro e w2 ⟨rfl, hd3⟩; have hb3 := hd3.below.mono hsz; clear hd3)
          go_ret2
          exact ⟨by rw [hA]; rfl, HB.out.trans hb3⟩
        · rw [Bool.not_eq_true] at hg9
          rw [hg9] at hgo
          have hca : strings_ContainsAny.f x ⟨#[13, 10]⟩ = some (Lib.containsAny x.data.toList [13, 10]) := by
            unfold strings_ContainsAny.f; rw [if_pos ⟨hxs, by decide, by decide, by decide⟩]
          have hGw := hG.below HB.out
          by_cases hc9 : Lib.containsAny x.data.toList [13, 10] = true
          · have hA := foldA_bad l0 (any_take l0 (i + 1) (by rw [HX.out]; unfold badF; rw [hc9, Bool.or_true]))
            rw [hc9] at hca
            go_wp2_with (go_at_call 37; refine (fold_goesOn.calls _ _ _ hGw hgo).mono ?_; rintro e w2 ⟨rfl, hd3⟩; have hb3 := hd3.below; clear hd3)
            go_at_call 38
            refine (strings_ContainsAny.calls _ _ _ _ (hGw.below hb3) hca).mono ?_
            rintro e w3 ⟨rfl, hb4⟩
            go_wp2
            go_ret2
            exact ⟨by rw [hA]; rfl, (HB.out.trans (hb3.mono hsz)).trans (hb4.mono (by have := hb3.size; omega))⟩
          · rw [Bool.not_eq_true] at hc9
            rw [hc9] at hca
            cases gk with
            | zero => exfalso; have := HI.out; omega
            | succ g2 =>
            go_wp2_with (go_at_call 37; refine (fold_goesOn.calls _ _ _ hGw hgo).mono ?_; rintro e w2 ⟨rfl, hd3⟩; have hb3 := hd3.below; clear hd3)
            go_at_call 38
            refine (strings_ContainsAny.calls _ _ _ _ (hGw.below hb3) hca).mono ?_
            rintro e w3 ⟨rfl, hb4⟩
            go_wp2
            go_roundg g2
            case measure => have := HI.out; omega
            case rel =>
              have hlen : l0.length ≤ 9223372036854775807 := HR.out.2.1
              refine ⟨i + 1, ?_, by omega, ⟨by have := HI.out; omega⟩, ⟨by rw [HX.out]; unfold badF; rw [hx0, hxe, hc9, Bool.false_or, hg9]; rfl⟩, ⟨(HB.out.trans (hb3.mono hsz)).trans (hb4.mono (by have := hb3.size; omega))⟩⟩
              first | (go_num; done) | (congr 1; unfold wrap64; omega)
    · have hd : decide (i < l0.length) = false := decide_eq_false hlt
      have hA0 : l0.any badF = false := by have := HA.out; rwa [List.take_of_length_le (by omega)] at this
      have hlen : l0.length ≤ 9223372036854775807 := HR.out.2.1
      have hsz := HB.out.size
      go_wp2
      go_loopg [29] l0.length (fun g v29 wr2 => ∃ (j : Nat) (acc : List UInt8), v29 = .int .i64 j ∧ j ≤ l0.length ∧ Aside0 (l0.length ≤ j + g) ∧ Aside0 (foldR (l0.drop j) acc = foldA l0) ∧ acc.length ≤ 28000 ∧ Aside0 (Bld.Has w.heap.size wr.heap.size acc wr2) ∧ Aside0 (Below w.heap.size w wr2))
      case atStart => exact ⟨0, [], by go_num, by omega, ⟨by omega⟩, ⟨by unfold foldA; rw [hA0]; rfl⟩, by simp, ⟨Bld.Has.new _ _ hsz⟩, ⟨HB.out.alloc hsz _⟩⟩
      case round =>
        obtain ⟨j, acc, rfl, hj, HJ, HF, hacc, HH, HB2⟩ := hrel
        have hsz2 := HB2.out.size
        by_cases hlt2 : j < l0.length
        · obtain ⟨ad, rfl, hcell⟩ := Kd.at_string (Kd.C_below HR.out HB2.out) (j : Int) (by omega) (by omega)
          have HX : Aside0 (l0.drop j = rdOf ByteArray.empty l0 (j : Int) :: l0.drop (j + 1)) := ⟨by
            have e : rdOf ByteArray.empty l0 (j : Int) = l0[j] := by unfold rdOf; rw [Int.toNat_natCast, List.getD_eq_getElem?_getD, List.getElem?_eq_getElem hlt2]; rfl
            rw [e]; exact List.drop_eq_getElem_cons hlt2⟩
          rw [Int.toNat_natCast] at hcell
          generalize rdOf ByteArray.empty l0 (j : Int) = x at *
          have hd4 : decide (j < l0.length) = true := decide_eq_true hlt2
          by_cases hx : x.size > 2000
          · have hd5 : decide (2000 < x.size) = true := decide_eq_true hx
            have hA : foldA l0 = (⟨#[]⟩, 4) := by rw [← HF.out, HX.out, foldR, if_pos (.inl hx)]
            go_wp2
            go_ret2
            exact ⟨by first | rfl | (rw [hA]; rfl), HB2.out⟩
          · have hd5 : decide (2000 < x.size) = false := decide_eq_false hx
            by_cases hac : acc.length > 20000
            · have hd6 : decide (20000 < acc.length) = true := decide_eq_true hac
              have hA : foldA l0 = (⟨#[]⟩, 4) := by rw [← HF.out, HX.out, foldR, if_pos (.inr hac)]
              go_wp2_with (go_at_call 39; refine (Bld.len _ _ _ _ HH.out).mono ?_; rintro e w2 ⟨rfl, hw2⟩; rw [hw2]; clear hw2)
              go_ret2
              exact ⟨by first | rfl | (rw [hA]; rfl), HB2.out⟩
            · have hd6 : decide (20000 < acc.length) = false := decide_eq_false hac
              go_wp2_with (go_at_call 39; refine (Bld.len _ _ _ _ HH.out).mono ?_; rintro e w2 ⟨rfl, hw2⟩; rw [hw2]; clear hw2)
              cases gk with
              | zero => exfalso; have := HJ.out; omega
              | succ g3 =>
              have hB2 : 2 ≤ w.heap.size := GG.two hG
              have hlen2 := oneT_len _ x.data.toList 75 (by omega) (Nat.le_refl _)
              have hGw := hG.below HB2.out
              first | go_at_call 40 | skip
              refine (one_walk w.heap.size _ acc x _ hGw HH.out hB2 hsz2 (by omega) (by omega)).mono ?_
              rintro e w3 ⟨rfl, h1, h2⟩
              go_wp2
              go_roundg g3
              case measure => have := HJ.out; omega
              case rel =>
                have hlen3 : l0.length ≤ 9223372036854775807 := HR.out.2.1
                have e7 : x.data.toList.length = x.size := by rw [Array.length_toList]; rfl
                refine ⟨j + 1, acc ++ oneT x.data.toList 75, ?_, by omega, ⟨by have := HJ.out; omega⟩, ⟨?_⟩, by rw [List.length_append]; omega, ⟨h1⟩, ⟨HB2.out.trans h2⟩⟩
                · first | (go_num; done) | (congr 1; unfold wrap64; omega)
                · rw [← HF.out, HX.out, foldR, if_neg (by omega)]
        · have hd4 : decide (j < l0.length) = false := decide_eq_false hlt2
          have hF2 : foldR [] acc = foldA l0 := by have := HF.out; rwa [List.drop_of_length_le (by omega)] at this
          by_cases hac : acc.length > 20000
          · have hd6 : decide (20000 < acc.length) = true := decide_eq_true hac
            have hA : foldA l0 = (⟨#[]⟩, 4) := by rw [← hF2, foldR, if_pos hac]
            go_wp2_with (go_at_call 39; refine (Bld.len _ _ _ _ HH.out).mono ?_; rintro e w2 ⟨rfl, hw2⟩; rw [hw2]; clear hw2)
            go_ret2
            exact ⟨by first | rfl | (rw [hA]; rfl), HB2.out⟩
          · have hd6 : decide (20000 < acc.length) = false := decide_eq_false hac
            have hA : foldA l0 = (⟨acc.toArray⟩, 0) := by rw [← hF2, foldR, if_neg hac]
            go_wp2_with (go_at_call 39; refine (Bld.len _ _ _ _ HH.out).mono ?_; rintro e w2 ⟨rfl, hw2⟩; rw [hw2]; clear hw2)
            first | go_at_call 41 | skip
            refine (Bld.str _ _ _ _ HH.out hsz2).mono ?_
            rintro e w3 ⟨rfl, h1, h2, h3⟩
            go_wp2
            go_ret2
            exact ⟨by first | rfl | (rw [hA]; rfl), HB2.out.trans h2⟩
theorem fold_Fold.calls (A0 : Option Addr) (c0 : Nat) (l0 : List ByteArray) (r1 : ByteArray) (r2 : Int) (w : World) (hG : GG w) (hr0 : Kd.C Kd.string w A0 l0.length l0) (hc0 : l0.length ≤ c0) (h : fold_Fold.f l0 = some (r1, r2)) :
    Calls Tryz.prog 22 #[.slice A0 l0.length c0] w fun e w' => e = .returned (.tuple #[.string r1, .int .i64 r2]) ∧ Below w.heap.size w w' := by
  unfold fold_Fold.f at h
  by_cases hs : ∀ x ∈ l0, x.size < 4294967281
  · rw [if_pos hs] at h
    have h2 := Option.some.inj h
    have := fold_walk A0 c0 l0 w hG hr0 hc0 hs
    rw [h2] at this
    exact this
  · rw [if_neg hs] at h; cases h
end Go.Proofs.YtdojmdbaiddkgaaGreatDoor.Print
end
section
namespace Go.Proofs.YtdojmdbaiddkgaaGreatDoor.Print
open Go.RowKit Go.Proofs.YtdojmdbaiddkgaaGreatDoorW.PrintWords Go.Proofs.YtdojmdbaiddkgaaGreatDoorW.PrintLast Go.Proofs.YtdojmdbaiddkgaaGreatDoorW.PrintMore
set_option linter.unusedVariables false
set_option linter.unusedSimpArgs false
def tree_Print.f (k : Nat) (a0_0 : ByteArray) (l0_1 : List (S49)) (l0_2 : List (S31)) : Option (ByteArray × Int) := (tree_Formed.f k a0_0 l0_1 l0_2).bind fun t283 => (if t283 = true then ((tree_lines.f k a0_0 l0_1 l0_2).bind fun bt284 => (if bt284.2 = 0 then ((fold_Fold.f bt284.1).bind fun bt288 => (some (bt288.1, bt288.2))) else (some ((⟨#[]⟩ : ByteArray), bt284.2)))) else (some ((⟨#[]⟩ : ByteArray), 1)))
set_option maxHeartbeats 8000000 in
set_option maxRecDepth 100000 in
theorem tree_Print.calls (k : Nat) (a0_0 : ByteArray) (A0_1 : Option Addr) (c0_1 : Nat) (l0_1 : List (S49)) (A0_2 : Option Addr) (c0_2 : Nat) (l0_2 : List (S31)) (r1 : ByteArray) (r2 : Int) (w : World) (hG : GG w) (hr0_1 : Kd.C k49 w A0_1 l0_1.length l0_1) (hc0_1 : l0_1.length ≤ c0_1) (hr0_2 : Kd.C k31 w A0_2 l0_2.length l0_2) (hc0_2 : l0_2.length ≤ c0_2) (h : tree_Print.f k a0_0 l0_1 l0_2 = some (r1, r2)) :
  Calls Tryz.prog 9 #[.agg #[.string a0_0, .slice A0_1 l0_1.length c0_1, .slice A0_2 l0_2.length c0_2]] w fun e w' => e = .returned (.tuple #[.string r1, .int .i64 r2]) ∧ Below w.heap.size w w' := by
 have hu31 := Tryz.underlying31; have HR0_1 := Aside0.mk hr0_1; have HC0_1 := Aside0.mk hc0_1; clear hr0_1 hc0_1; have HR0_2 := Aside0.mk hr0_2; have HC0_2 := Aside0.mk hc0_2; clear hr0_2 hc0_2; have HB := Aside0.mk (Below.refl w.heap.size w); have H : ((tree_Formed.f k a0_0 l0_1 l0_2).bind fun t283 => (if t283 = true then ((tree_lines.f k a0_0 l0_1 l0_2).bind fun bt284 => (if bt284.2 = 0 then ((fold_Fold.f bt284.1).bind fun bt288 => (some (bt288.1, bt288.2))) else (some ((⟨#[]⟩ : ByteArray), bt284.2)))) else (some ((⟨#[]⟩ : ByteArray), 1)))) = some (r1, r2) := h; clear h; replace H := zO H; obtain ⟨t283, A2, H⟩ := H; replace H := zIb H; rcases H with ⟨rfl, H⟩ | ⟨rfl, H⟩
 ·replace H := Option.bind_eq_some_iff.mp H; obtain ⟨⟨t284, t287⟩, A40, H⟩ := H; replace H : (if t287 = 0 then ((fold_Fold.f t284).bind fun bt288 => (some (bt288.1, bt288.2))) else (some ((⟨#[]⟩ : ByteArray), t287))) = some (r1, r2) := H; have A4 := Aside0.mk A40; clear A40; replace H := zIe H; rcases H with ⟨-, c5b0, c5b1, H⟩ | ⟨c5, c5b0, c5b1, H⟩
  ·replace H := Option.bind_eq_some_iff.mp H; obtain ⟨⟨t288, t289⟩, A60, H⟩ := H; replace H : (some (t288, t289)) = some (r1, r2) := H; have A6 := Aside0.mk A60; clear A60; simp only [Option.some.injEq, Prod.mk.injEq] at H; obtain ⟨rfl, rfl⟩ := H
   go_enter Tryz.func9, Tryz.ntmps9
   go_wp2_with (first | ((with_reducible refine gate_dst (N := 1) rfl ?_); refine zbox (N := 1) #[.string a0_0, .slice A0_1 l0_1.length c0_1, .slice A0_2 l0_2.length c0_2] 31 (fun gb282 hg w7 hbox hb => ?_); replace BK282 := Aside0.mk hbox; replace GE282 := zg w hg; replace HB := zw hb; clear hb hbox hg; obtain ⟨hcz8_0, hcz8_1, hcz8_2, hfz8_0, hfz8_1, hfz8_2⟩ := zk3 BK282) | ((with_reducible refine gate_callee (f := 11) rfl ?_); refine goesL_ (some 7) rfl rfl Tryz.func11 (by kernel_rfl) rfl #[.agg #[.string a0_0, .slice A0_1 l0_1.length c0_1, .slice A0_2 l0_2.length c0_2]] rfl zA ?_; (with_reducible refine (tree_Formed.calls k a0_0 _ _ l0_1 _ _ l0_2 true _ zG ?side1 ?side2 ?side3 ?side4 A2.out).mono ?_); (case side1 => exact Kd.C_below (Kd.C_below HR0_1.out HB.out) zX); (case side2 => exact HC0_1.out); (case side3 => exact Kd.C_below (Kd.C_below HR0_2.out HB.out) zX); (case side4 => exact HC0_2.out); rintro e w9 ⟨rfl, hb⟩; refine ⟨_, rfl, ?_⟩; replace BK282 := zb BK282 hb; replace HB := zw hb; clear hb; obtain ⟨hcz10_0, hcz10_1, hcz10_2, hfz10_0, hfz10_1, hfz10_2⟩ := zk3 BK282) | ((with_reducible refine gate_callee (f := 21) rfl ?_); refine goesL_ (some 11) rfl rfl Tryz.func21 (by kernel_rfl) rfl #[.agg #[.string a0_0, .slice A0_1 l0_1.length c0_1, .slice A0_2 l0_2.length c0_2]] rfl zA ?_; (with_reducible refine (tree_lines.calls k a0_0 _ _ l0_1 _ _ l0_2 t284 t287 _ zG ?side1 ?side2 ?side3 ?side4 A4.out).mono ?_); (case side1 => exact Kd.C_below (Kd.C_below HR0_1.out HB.out) zX); (case side2 => exact HC0_1.out); (case side3 => exact Kd.C_below (Kd.C_below HR0_2.out HB.out) zX); (case side4 => exact HC0_2.out); rintro e w11 ⟨v285, rfl, ho0, hb⟩; refine ⟨_, rfl, ?_⟩; replace HO286 := Aside0.mk (Kd.R_lower ho0 (below_size zB)); replace BK282 := zb BK282 hb; replace HB := zw hb; clear hb; clear ho0; obtain ⟨Ao12, co12, eo12⟩ := Kd.R_slice HO286.out; subst eo12) | ((with_reducible refine gate_callee (f := 22) rfl ?_); refine goesL_ (some 18) rfl rfl Tryz.func22 (by kernel_rfl) rfl #[.slice Ao12 t284.length co12] rfl zA ?_; (with_reducible refine (fold_Fold.calls _ _ t284 t288 t289 _ zG ?side1 ?side2 A6.out).mono ?_); (case side1 => exact Kd.C_below (Kd.R_reads' HO286.out).2.2 zX); (case side2 => exact (Kd.R_reads' HO286.out).2.1); rintro e w13 ⟨rfl, hb⟩; refine ⟨_, rfl, ?_⟩; replace HO286 := Aside0.mk (Kd.R_below (Kd.R_below HO286.out zX) hb); replace BK282 := zb BK282 hb; replace HB := zw hb; clear hb))
   go_ret2; exact ⟨zE, zB⟩
  ·simp only [Option.some.injEq, Prod.mk.injEq] at H; obtain ⟨rfl, rfl⟩ := H
   go_enter Tryz.func9, Tryz.ntmps9
   go_wp2_with (first | ((with_reducible refine gate_dst (N := 1) rfl ?_); refine zbox (N := 1) #[.string a0_0, .slice A0_1 l0_1.length c0_1, .slice A0_2 l0_2.length c0_2] 31 (fun gb282 hg w14 hbox hb => ?_); replace BK282 := Aside0.mk hbox; replace GE282 := zg w hg; replace HB := zw hb; clear hb hbox hg; obtain ⟨hcz15_0, hcz15_1, hcz15_2, hfz15_0, hfz15_1, hfz15_2⟩ := zk3 BK282) | ((with_reducible refine gate_callee (f := 11) rfl ?_); refine goesL_ (some 7) rfl rfl Tryz.func11 (by kernel_rfl) rfl #[.agg #[.string a0_0, .slice A0_1 l0_1.length c0_1, .slice A0_2 l0_2.length c0_2]] rfl zA ?_; (with_reducible refine (tree_Formed.calls k a0_0 _ _ l0_1 _ _ l0_2 true _ zG ?side1 ?side2 ?side3 ?side4 A2.out).mono ?_); (case side1 => exact Kd.C_below (Kd.C_below HR0_1.out HB.out) zX); (case side2 => exact HC0_1.out); (case side3 => exact Kd.C_below (Kd.C_below HR0_2.out HB.out) zX); (case side4 => exact HC0_2.out); rintro e w16 ⟨rfl, hb⟩; refine ⟨_, rfl, ?_⟩; replace BK282 := zb BK282 hb; replace HB := zw hb; clear hb; obtain ⟨hcz17_0, hcz17_1, hcz17_2, hfz17_0, hfz17_1, hfz17_2⟩ := zk3 BK282) | ((with_reducible refine gate_callee (f := 21) rfl ?_); refine goesL_ (some 11) rfl rfl Tryz.func21 (by kernel_rfl) rfl #[.agg #[.string a0_0, .slice A0_1 l0_1.length c0_1, .slice A0_2 l0_2.length c0_2]] rfl zA ?_; (with_reducible refine (tree_lines.calls k a0_0 _ _ l0_1 _ _ l0_2 t284 t287 _ zG ?side1 ?side2 ?side3 ?side4 A4.out).mono ?_); (case side1 => exact Kd.C_below (Kd.C_below HR0_1.out HB.out) zX); (case side2 => exact HC0_1.out); (case side3 => exact Kd.C_below (Kd.C_below HR0_2.out HB.out) zX); (case side4 => exact HC0_2.out); rintro e w18 ⟨v285, rfl, ho0, hb⟩; refine ⟨_, rfl, ?_⟩; replace HO286 := Aside0.mk (Kd.R_lower ho0 (below_size zB)); replace BK282 := zb BK282 hb; replace HB := zw hb; clear hb; clear ho0))
   go_ret2; exact ⟨zE, zB⟩
 ·simp only [Option.some.injEq, Prod.mk.injEq] at H; obtain ⟨rfl, rfl⟩ := H
  go_enter Tryz.func9, Tryz.ntmps9
  go_wp2_with (first | ((with_reducible refine gate_dst (N := 1) rfl ?_); refine zbox (N := 1) #[.string a0_0, .slice A0_1 l0_1.length c0_1, .slice A0_2 l0_2.length c0_2] 31 (fun gb282 hg w19 hbox hb => ?_); replace BK282 := Aside0.mk hbox; replace GE282 := zg w hg; replace HB := zw hb; clear hb hbox hg; obtain ⟨hcz20_0, hcz20_1, hcz20_2, hfz20_0, hfz20_1, hfz20_2⟩ := zk3 BK282) | ((with_reducible refine gate_callee (f := 11) rfl ?_); refine goesL_ (some 7) rfl rfl Tryz.func11 (by kernel_rfl) rfl #[.agg #[.string a0_0, .slice A0_1 l0_1.length c0_1, .slice A0_2 l0_2.length c0_2]] rfl zA ?_; (with_reducible refine (tree_Formed.calls k a0_0 _ _ l0_1 _ _ l0_2 false _ zG ?side1 ?side2 ?side3 ?side4 A2.out).mono ?_); (case side1 => exact Kd.C_below (Kd.C_below HR0_1.out HB.out) zX); (case side2 => exact HC0_1.out); (case side3 => exact Kd.C_below (Kd.C_below HR0_2.out HB.out) zX); (case side4 => exact HC0_2.out); rintro e w21 ⟨rfl, hb⟩; refine ⟨_, rfl, ?_⟩; replace BK282 := zb BK282 hb; replace HB := zw hb; clear hb))
  go_ret2; exact ⟨zE, zB⟩
end Go.Proofs.YtdojmdbaiddkgaaGreatDoor.Print
end
section
set_option linter.unusedVariables false
set_option linter.unusedSimpArgs false
namespace Go.Proofs.YtdojmdbaiddkgaaGreatDoor.Print
open Go.RowKit Go.Proofs.YtdojmdbaiddkgaaGreatDoorW.PrintWords Go.Proofs.YtdojmdbaiddkgaaGreatDoorW.PrintLast Go.Proofs.YtdojmdbaiddkgaaGreatDoorW.PrintMore
/-- A line of a row, by its block. -/
theorem line_at0 {w : World} {A : Option Addr} {l : List S49} (h : Kd.C k49 w A l.length l) (i : Nat) (hi : i < l.length) : ∃ b o A1 c1, A = some ⟨b, o, none⟩ ∧ w.cell? ⟨b, o + i * 3, none⟩ = some (.string (l.getD i z49).f0) ∧ w.cell? ⟨b, o + i * 3 + 1, none⟩ = some (.slice A1 (l.getD i z49).f1.length c1) ∧ w.cell? ⟨b, o + i * 3 + 2, none⟩ = some (.string (l.getD i z49).f2) ∧ (l.getD i z49).f1.length ≤ c1 ∧ Kd.C k77 w A1 (l.getD i z49).f1.length (l.getD i z49).f1 := by
  obtain ⟨ad, A1, c1, hA, h0, h1, h2, hc, hC⟩ := at_T49 h i (by omega) (by omega)
  obtain ⟨ad', _, _, hA', h0', _⟩ := at_T49 h 0 (by omega) (by omega)
  obtain rfl : ad = ad' := by rw [hA] at hA'; exact Option.some.inj hA'
  obtain ⟨b, o, rfl⟩ := addr_plain (show w.cell? (ad.add 0) = _ from h0')
  refine ⟨b, o, A1, c1, hA, ?_, ?_, ?_, hc, hC⟩
  · rw [add_plainO] at h0; exact h0
  · rw [add_plainO] at h1; exact h1
  · rw [add_plainO] at h2; exact h2
theorem tree_at0 {w : World} {A : Option Addr} {l : List S31} (h : Kd.C k31 w A l.length l) (i : Nat) (hi : i < l.length) : ∃ b o A1 c1 A2 c2, A = some ⟨b, o, none⟩ ∧ w.cell? ⟨b, o + i * 3, none⟩ = some (.string (l.getD i z31).f0) ∧ w.cell? ⟨b, o + i * 3 + 1, none⟩ = some (.slice A1 (l.getD i z31).f1.length c1) ∧ w.cell? ⟨b, o + i * 3 + 2, none⟩ = some (.slice A2 (l.getD i z31).f2.length c2) ∧ (l.getD i z31).f1.length ≤ c1 ∧ Kd.C k49 w A1 (l.getD i z31).f1.length (l.getD i z31).f1 ∧ (l.getD i z31).f2.length ≤ c2 ∧ Kd.C k31 w A2 (l.getD i z31).f2.length (l.getD i z31).f2 := by
  obtain ⟨ad, A1, c1, A2, c2, hA, h0, h1, h2, hc, hC, hd, hD⟩ := at_T31 h i (by omega) (by omega)
  obtain ⟨ad', _, _, _, _, hA', h0', _⟩ := at_T31 h 0 (by omega) (by omega)
  obtain rfl : ad = ad' := by rw [hA] at hA'; exact Option.some.inj hA'
  obtain ⟨b, o, rfl⟩ := addr_plain (show w.cell? (ad.add 0) = _ from h0')
  refine ⟨b, o, A1, c1, A2, c2, hA, ?_, ?_, ?_, hc, hC, hd, hD⟩
  · rw [add_plainO] at h0; exact h0
  · rw [add_plainO] at h1; exact h1
  · rw [add_plainO] at h2; exact h2
def eqLn (p q : S49) : Bool := eqL p.f0 p.f1 p.f2 q.f0 q.f1 q.f2
def eqLns : List S49 → List S49 → Bool
  | [], [] => true
  | p :: s, q :: t => eqLn p q && eqLns s t
  | _, _ => false
theorem eqLns_len : ∀ (a b : List S49), a.length ≠ b.length → eqLns a b = false
  | [], [], h => absurd rfl h
  | [], _ :: _, _ => rfl
  | _ :: _, [], _ => rfl
  | _ :: s, _ :: t, h => by
    unfold eqLns
    rw [eqLns_len s t (fun e => h (by simp [e])), Bool.and_false]
theorem eqLns_at (a b : List S49) (i : Nat) (ha : i < a.length) (hb : i < b.length) : eqLns (a.drop i) (b.drop i) = (eqLn (a.getD i z49) (b.getD i z49) && eqLns (a.drop (i + 1)) (b.drop (i + 1))) := by
  rw [List.drop_eq_getElem_cons ha, List.drop_eq_getElem_cons hb, List.getD_eq_getElem?_getD, List.getD_eq_getElem?_getD, List.getElem?_eq_getElem ha, List.getElem?_eq_getElem hb]
  rfl
mutual
def eqT : S31 → S31 → Bool
  | ⟨n, l, k⟩, ⟨m, o, j⟩ => decide (n = m) && (eqLns l o && eqTs k j)
def eqTs : List S31 → List S31 → Bool
  | [], [] => true
  | p :: s, q :: t => eqT p q && eqTs s t
  | [], _ :: _ => false
  | _ :: _, [] => false
end
theorem eqTs_len : ∀ (a b : List S31), a.length ≠ b.length → eqTs a b = false
  | [], [], h => absurd rfl h
  | [], _ :: _, _ => by simp [eqTs]
  | _ :: _, [], _ => by simp [eqTs]
  | _ :: s, _ :: t, h => by
    simp only [eqTs]
    rw [eqTs_len s t (fun e => h (by simp [e])), Bool.and_false]
theorem eqTs_at (a b : List S31) (i : Nat) (ha : i < a.length) (hb : i < b.length) : eqTs (a.drop i) (b.drop i) = (eqT (a.getD i z31) (b.getD i z31) && eqTs (a.drop (i + 1)) (b.drop (i + 1))) := by
  rw [List.drop_eq_getElem_cons ha, List.drop_eq_getElem_cons hb, List.getD_eq_getElem?_getD, List.getD_eq_getElem?_getD, List.getElem?_eq_getElem ha, List.getElem?_eq_getElem hb]
  simp only [eqTs]; rfl
theorem blkO (w : World) (o o' : Obj) : ((w.alloc o).alloc o').heap[w.heap.size]? = some o := by
  rw [Below.heap_alloc _ _ _ (by simp)]; exact heap_alloc_new w o
theorem blkO2 (w : World) (o o' : Obj) : ((w.alloc o).alloc o').heap[w.heap.size + 1]? = some o' := by
  have := heap_alloc_new (w.alloc o) o'
  simpa using this
theorem cellO {w : World} {g : Nat} {cs : Array Value} {t : TypeId} {fr : Nat × Nat} (h : w.heap[g]? = some (.cells cs t fr)) (j : Nat) : w.cell? ⟨g, j, none⟩ = cs[j]? := by simp [World.cell?, h]
set_option maxHeartbeats 4000000 in
set_option maxRecDepth 100000 in
theorem eqLns_walk (A0 : Option Addr) (c0 : Nat) (l0 : List S49) (A1 : Option Addr) (c1 : Nat) (l1 : List S49) (w : World) (hG : GG w) (h0 : Kd.C k49 w A0 l0.length l0) (h1 : Kd.C k49 w A1 l1.length l1) :
    Calls Tryz.prog 32 #[.slice A0 l0.length c0, .slice A1 l1.length c1, .func (.func 33) #[] #[]] w fun e w' => e = .returned (.bool (eqLns l0 l1)) ∧ Below w.heap.size w w' := by
  have hm := h0.2.1
  have H0 := Aside0.mk h0
  have H1 := Aside0.mk h1
  have HGG := Aside0.mk hG
  clear h0 h1 hG
  by_cases hl : l0.length = l1.length
  · obtain ⟨n, hn⟩ : ∃ n, n = l0.length := ⟨_, rfl⟩
    have hn1 : n = l1.length := by omega
    have HN := Aside0.mk hn
    have HN1 := Aside0.mk hn1
    rw [← hn] at hm ⊢
    rw [← hn1]
    clear hl hn hn1
    have hnot : ∀ (x : Bool) (w : World), (Op.unary .not (.bool x)).run Tryz.prog w = .ok (.bool (!x)) w := fun _ _ => rfl
    go_enter Tryz.func32, Tryz.ntmps32
    go_wp2_with fail
    go_loopg [7, 8, 9, 17] n (fun g v7 v8 v9 v17 wr => ∃ i : Nat, v17 = .int .i64 i ∧ i ≤ n ∧ Aside0 (n ≤ i + g) ∧ Aside0 (Below w.heap.size w wr) ∧ Aside0 (eqLns l0 l1 = eqLns (l0.drop i) (l1.drop i)))
    case atStart => exact ⟨0, rfl, by omega, ⟨by omega⟩, ⟨Below.refl _ _⟩, ⟨rfl⟩⟩
    case round =>
      obtain ⟨i, rfl, hi, HG, HB, HE⟩ := hrel
      by_cases hlt : i < n
      · cases gk with
        | zero => exfalso; have := HG.out; omega
        | succ g =>
        obtain ⟨b0, o0, A2, c2, e0, p0, p1, p2, hc2, hC2⟩ := line_at0 (Kd.C_below H0.out HB.out) i (by have := HN.out; omega)
        obtain ⟨b1, o1, A3, c3, e1, q0, q1, q2, hc3, hC3⟩ := line_at0 (Kd.C_below H1.out HB.out) i (by have := HN1.out; omega)
        subst e0 e1
        have hE := eqLns_at l0 l1 i (by have := HN.out; omega) (by have := HN1.out; omega)
        obtain ⟨p, hp⟩ : ∃ p, p = l0.getD i z49 := ⟨_, rfl⟩
        obtain ⟨q, hq⟩ : ∃ q, q = l1.getD i z49 := ⟨_, rfl⟩
        rw [← hp] at p0 p1 p2 hc2 hC2 hE
        rw [← hq] at q0 q1 q2 hc3 hC3 hE
        have HX := Aside0.mk (And.intro hC2 (And.intro hC3 hE))
        have HCC := Aside0.mk (And.intro hc2 hc3)
        have hb0 := cellLt0 p0
        have hb1 := cellLt0 q0
        clear hC2 hC3 hc2 hc3 hp hq hE
        obtain ⟨r, hr⟩ : ∃ r, r = eqLn p q := ⟨_, rfl⟩
        rw [← hr] at HX
        have HR := Aside0.mk hr
        clear hr
        go_wp2_with fail
        go_at_call 33
        refine (line_Equal.calls p.f0 A2 c2 p.f1 p.f2 q.f0 A3 c3 q.f1 q.f2 r _ (by first | exact HGG.out.below (by repeat (first | exact HB.out | apply below_alloc)) | exact GG.below HGG.out (by repeat (first | exact HB.out | apply below_alloc))) (Kd.C_below HX.out.1 (by repeat (first | exact Below.refl _ _ | apply below_alloc))) HCC.out.1 (Kd.C_below HX.out.2.1 (by repeat (first | exact Below.refl _ _ | apply below_alloc))) HCC.out.2 (by rw [HR.out]; rfl)).mono ?_
        rintro e w2 ⟨rfl, hB⟩
        have HB2 := Aside0.mk (HB.out.trans (((show Below wr.heap.size wr _ by repeat (first | exact Below.refl _ _ | apply below_alloc)).trans (hB.mono (by simp <;> omega))).mono HB.out.size))
        clear hB
        cases r with
        | true =>
          go_wp2_with fail
          go_roundg g
          case measure => have := HG.out; omega
          case rel => exact ⟨i + 1, by first | rfl | (go_num; done), by omega, ⟨by have := HG.out; omega⟩, HB2, ⟨by rw [HE.out, HX.out.2.2, Bool.true_and]⟩⟩
        | false =>
          go_wp2_with fail
          go_ret
          exact ⟨by rw [HE.out, HX.out.2.2, Bool.false_and]; rfl, HB2.out⟩
      · have hin : i = n := by omega
        subst hin
        go_wp2_with fail
        go_ret
        refine ⟨?_, HB.out⟩
        rw [HE.out, List.drop_eq_nil_of_le (by have := HN.out; omega), List.drop_eq_nil_of_le (by have := HN1.out; omega)]
        rfl
  · have he := eqLns_len l0 l1 hl
    have HE := Aside0.mk he
    clear he
    have hl1 : decide ((l0.length : Int) = (l1.length : Int)) = false := decide_eq_false (by omega)
    have hl2 : ¬ (l0.length : Int) = (l1.length : Int) := by omega
    go_enter Tryz.func32, Tryz.ntmps32
    go_wp2_with fail
    go_ret
    exact ⟨by rw [HE.out]; rfl, Below.refl _ _⟩
/-- What is to be shown of two trees. -/
def EqTW (p q : S31) : Prop := ∀ (A1 : Option Addr) (c1 : Nat) (A2 : Option Addr) (c2 : Nat) (B1 : Option Addr) (d1 : Nat) (B2 : Option Addr) (d2 : Nat) (w : World), GG w → Kd.C k49 w A1 p.f1.length p.f1 → p.f1.length ≤ c1 → Kd.C k31 w A2 p.f2.length p.f2 → p.f2.length ≤ c2 → Kd.C k49 w B1 q.f1.length q.f1 → q.f1.length ≤ d1 → Kd.C k31 w B2 q.f2.length q.f2 → q.f2.length ≤ d2 →
    Calls Tryz.prog 18 #[.agg #[.string p.f0, .slice A1 p.f1.length c1, .slice A2 p.f2.length c2], .agg #[.string q.f0, .slice B1 q.f1.length d1, .slice B2 q.f2.length d2]] w fun e w' => e = .returned (.bool (eqT p q)) ∧ Below w.heap.size w w'
set_option maxHeartbeats 4000000 in
set_option maxRecDepth 100000 in
theorem eqTs_walk (N : Nat) (ih : ∀ p q : S31, SizeOf.sizeOf p < N → EqTW p q) (A0 : Option Addr) (c0 : Nat) (l0 : List S31) (A1 : Option Addr) (c1 : Nat) (l1 : List S31) (w : World) (hN : ∀ p ∈ l0, SizeOf.sizeOf p < N) (hG : GG w) (h0 : Kd.C k31 w A0 l0.length l0) (h1 : Kd.C k31 w A1 l1.length l1) :
    Calls Tryz.prog 34 #[.slice A0 l0.length c0, .slice A1 l1.length c1, .func (.func 18) #[] #[]] w fun e w' => e = .returned (.bool (eqTs l0 l1)) ∧ Below w.heap.size w w' := by
  have hm := h0.2.1
  have H0 := Aside0.mk h0
  have H1 := Aside0.mk h1
  have HGG := Aside0.mk hG
  have HIH := Aside0.mk ih
  have HNN := Aside0.mk hN
  clear h0 h1 hG ih hN
  by_cases hl : l0.length = l1.length
  · obtain ⟨n, hn⟩ : ∃ n, n = l0.length := ⟨_, rfl⟩
    have hn1 : n = l1.length := by omega
    have HN := Aside0.mk hn
    have HN1 := Aside0.mk hn1
    rw [← hn] at hm ⊢
    rw [← hn1]
    clear hl hn hn1
    have hnot : ∀ (x : Bool) (w : World), (Op.unary .not (.bool x)).run Tryz.prog w = .ok (.bool (!x)) w := fun _ _ => rfl
    go_enter Tryz.func34, Tryz.ntmps34
    go_wp2_with fail
    go_loopg [7, 8, 9, 17] n (fun g v7 v8 v9 v17 wr => ∃ i : Nat, v17 = .int .i64 i ∧ i ≤ n ∧ Aside0 (n ≤ i + g) ∧ Aside0 (Below w.heap.size w wr) ∧ Aside0 (eqTs l0 l1 = eqTs (l0.drop i) (l1.drop i)))
    case atStart => exact ⟨0, rfl, by omega, ⟨by omega⟩, ⟨Below.refl _ _⟩, ⟨rfl⟩⟩
    case round =>
      obtain ⟨i, rfl, hi, HG, HB, HE⟩ := hrel
      by_cases hlt : i < n
      · cases gk with
        | zero => exfalso; have := HG.out; omega
        | succ g =>
        obtain ⟨b0, o0, A2, c2, A4, c4, e0, p0, p1, p2, hc2, hC2, hc4, hC4⟩ := tree_at0 (Kd.C_below H0.out HB.out) i (by have := HN.out; omega)
        obtain ⟨b1, o1, A3, c3, A5, c5, e1, q0, q1, q2, hc3, hC3, hc5, hC5⟩ := tree_at0 (Kd.C_below H1.out HB.out) i (by have := HN1.out; omega)
        subst e0 e1
        have hE := eqTs_at l0 l1 i (by have := HN.out; omega) (by have := HN1.out; omega)
        obtain ⟨p, hp⟩ : ∃ p, p = l0.getD i z31 := ⟨_, rfl⟩
        obtain ⟨q, hq⟩ : ∃ q, q = l1.getD i z31 := ⟨_, rfl⟩
        have HM := Aside0.mk (HIH.out (l0.getD i z31) (l1.getD i z31) (HNN.out _ (by rw [List.getD_eq_getElem?_getD, List.getElem?_eq_getElem (show i < l0.length by have := HN.out; omega)]; exact List.getElem_mem _)))
        rw [← hp] at p0 p1 p2 hc2 hC2 hc4 hC4 hE HM
        rw [← hq] at q0 q1 q2 hc3 hC3 hc5 hC5 hE HM
        have HX := Aside0.mk (And.intro hC2 (And.intro hC3 hE))
        have HCC := Aside0.mk (And.intro hc2 (And.intro hc3 (And.intro hc4 hc5)))
        have HXK := Aside0.mk (And.intro hC4 hC5)
        have hb0 := cellLt0 p0
        have hb1 := cellLt0 q0
        clear hC2 hC3 hc2 hc3 hC4 hC5 hc4 hc5 hp hq hE
        obtain ⟨r, hr⟩ : ∃ r, r = eqT p q := ⟨_, rfl⟩
        rw [← hr] at HX
        have HR := Aside0.mk hr
        clear hr
        go_wp2_with fail
        go_at_call 18
        refine (HM.out A2 c2 A4 c4 A3 c3 A5 c5 _ (GG.below HGG.out (by repeat (first | exact HB.out | apply below_alloc))) (Kd.C_below HX.out.1 (by repeat (first | exact Below.refl _ _ | apply below_alloc))) HCC.out.1 (Kd.C_below HXK.out.1 (by repeat (first | exact Below.refl _ _ | apply below_alloc))) HCC.out.2.2.1 (Kd.C_below HX.out.2.1 (by repeat (first | exact Below.refl _ _ | apply below_alloc))) HCC.out.2.1 (Kd.C_below HXK.out.2 (by repeat (first | exact Below.refl _ _ | apply below_alloc))) HCC.out.2.2.2).mono ?_
        rw [← HR.out]
        rintro e w2 ⟨rfl, hB⟩
        have HB2 := Aside0.mk (HB.out.trans (((show Below wr.heap.size wr _ by repeat (first | exact Below.refl _ _ | apply below_alloc)).trans (hB.mono (by simp <;> omega))).mono HB.out.size))
        clear hB
        cases r with
        | true =>
          go_wp2_with fail
          go_roundg g
          case measure => have := HG.out; omega
          case rel => exact ⟨i + 1, by first | rfl | (go_num; done), by omega, ⟨by have := HG.out; omega⟩, HB2, ⟨by rw [HE.out, HX.out.2.2, Bool.true_and]⟩⟩
        | false =>
          go_wp2_with fail
          go_ret
          exact ⟨by rw [HE.out, HX.out.2.2, Bool.false_and]; rfl, HB2.out⟩
      · have hin : i = n := by omega
        subst hin
        go_wp2_with fail
        go_ret
        refine ⟨?_, HB.out⟩
        rw [HE.out, List.drop_eq_nil_of_le (by have := HN.out; omega), List.drop_eq_nil_of_le (by have := HN1.out; omega)]
        rfl
  · have he := eqTs_len l0 l1 hl
    have HE := Aside0.mk he
    clear he
    have hl1 : decide ((l0.length : Int) = (l1.length : Int)) = false := decide_eq_false (by omega)
    have hl2 : ¬ (l0.length : Int) = (l1.length : Int) := by omega
    go_enter Tryz.func34, Tryz.ntmps34
    go_wp2_with fail
    go_ret
    exact ⟨by rw [HE.out]; rfl, Below.refl _ _⟩
theorem eqT_walk : ∀ (N : Nat) (p q : S31), SizeOf.sizeOf p < N → EqTW p q := by
  intro N
  induction N with
  | zero => intro p q h; omega
  | succ N ih =>
    intro p q h A1 c1 A2 c2 B1 d1 B2 d2 w hG hC1 hc1 hC2 hc2 hD1 hd1 hD2 hd2
    obtain ⟨n, l, k⟩ := p
    obtain ⟨m, o, j⟩ := q
    have HIH := Aside0.mk ih
    have HNN : Aside0 (∀ p ∈ k, SizeOf.sizeOf p < N) := ⟨fun p hp => by have h1 := List.sizeOf_lt_of_mem hp; simp at h; omega⟩
    dsimp only at hC1 hc1 hC2 hc2 hD1 hd1 hD2 hd2 ⊢
    have HC := Aside0.mk (And.intro hC1 (And.intro hC2 (And.intro hD1 hD2)))
    have HGG := Aside0.mk hG
    have hT : eqT ⟨n, l, k⟩ ⟨m, o, j⟩ = (decide (n = m) && (eqLns l o && eqTs k j)) := by simp [eqT]
    rw [hT]
    clear hC1 hC2 hD1 hD2 hc1 hc2 hd1 hd2 ih h hG hT
    by_cases hn : n = m
    · subst hn
      have hb : (n.toList == n.toList) = true := beq_self_eq_true _
      rw [decide_eq_true rfl, Bool.true_and]
      obtain ⟨r, hr⟩ : ∃ r, r = eqLns l o := ⟨_, rfl⟩
      obtain ⟨r2, hr2⟩ : ∃ r2, r2 = eqTs k j := ⟨_, rfl⟩
      rw [← hr, ← hr2]
      have HR := Aside0.mk hr
      have HR2 := Aside0.mk hr2
      clear hr hr2
      go_enter Tryz.func18, Tryz.ntmps18
      go_wp2_with fail
      go_at_call 32
      refine (eqLns_walk A1 c1 l B1 d1 o _ (GG.below HGG.out (by repeat (first | exact Below.refl _ _ | apply below_alloc))) (Kd.C_below HC.out.1 (by repeat (first | exact Below.refl _ _ | apply below_alloc))) (Kd.C_below HC.out.2.2.1 (by repeat (first | exact Below.refl _ _ | apply below_alloc)))).mono ?_
      rw [← HR.out]
      rintro e w2 ⟨rfl, hB⟩
      have HB := Aside0.mk ((show Below w.heap.size w _ by repeat (first | exact Below.refl _ _ | apply below_alloc)).trans (hB.mono (by simp <;> omega)))
      have hx := (hB.block w.heap.size (by first | (simp; done) | (simp; omega))).trans (blkO w _ _)
      have hy := (hB.block (w.heap.size + 1) (by first | (simp; done) | (simp; omega))).trans (blkO2 w _ _)
      have x2 := cellO hx 2
      have y2 := cellO hy 2
      clear hB hx hy
      cases r with
      | false =>
        go_wp2_with fail
        go_ret
        exact ⟨rfl, HB.out⟩
      | true =>
        go_wp2_with fail
        go_at_call 34
        refine (eqTs_walk N HIH.out A2 c2 k B2 d2 j _ HNN.out (GG.below HGG.out HB.out) (Kd.C_below HC.out.2.1 HB.out) (Kd.C_below HC.out.2.2.2 HB.out)).mono ?_
        rw [← HR2.out]
        rintro e w3 ⟨rfl, hB⟩
        have HB3 := Aside0.mk (HB.out.trans (hB.mono HB.out.size))
        clear hB
        go_wp2_with fail
        go_ret
        exact ⟨by rw [Bool.true_and]; rfl, HB3.out⟩
    · have hb2 : ¬ n.toList = m.toList := fun h => hn (ba_toList h)
      have hb : (n.toList == m.toList) = false := by rw [beq_eq_false_iff_ne]; exact hb2
      rw [decide_eq_false hn, Bool.false_and]
      go_enter Tryz.func18, Tryz.ntmps18
      go_wp2_with fail
      go_ret
      exact ⟨rfl, by repeat (first | exact Below.refl _ _ | apply below_alloc)⟩
def tree_Equal.f (a0_0 : ByteArray) (l0_1 : List S49) (l0_2 : List S31) (a1_0 : ByteArray) (l1_1 : List S49) (l1_2 : List S31) : Option Bool := some (eqT ⟨a0_0, l0_1, l0_2⟩ ⟨a1_0, l1_1, l1_2⟩)
theorem tree_Equal.calls (a0_0 : ByteArray) (A0_1 : Option Addr) (c0_1 : Nat) (l0_1 : List S49) (A0_2 : Option Addr) (c0_2 : Nat) (l0_2 : List S31) (a1_0 : ByteArray) (A1_1 : Option Addr) (c1_1 : Nat) (l1_1 : List S49) (A1_2 : Option Addr) (c1_2 : Nat) (l1_2 : List S31) (r : Bool) (w : World) (hG : GG w) (hr0_1 : Kd.C k49 w A0_1 l0_1.length l0_1) (hc0_1 : l0_1.length ≤ c0_1) (hr0_2 : Kd.C k31 w A0_2 l0_2.length l0_2) (hc0_2 : l0_2.length ≤ c0_2) (hr1_1 : Kd.C k49 w A1_1 l1_1.length l1_1) (hc1_1 : l1_1.length ≤ c1_1) (hr1_2 : Kd.C k31 w A1_2 l1_2.length l1_2) (hc1_2 : l1_2.length ≤ c1_2) (h : tree_Equal.f a0_0 l0_1 l0_2 a1_0 l1_1 l1_2 = some r) :
    Calls Tryz.prog 18 #[.agg #[.string a0_0, .slice A0_1 l0_1.length c0_1, .slice A0_2 l0_2.length c0_2], .agg #[.string a1_0, .slice A1_1 l1_1.length c1_1, .slice A1_2 l1_2.length c1_2]] w fun e w' => e = .returned (.bool r) ∧ Below w.heap.size w w' := by
  obtain rfl := Option.some.inj h
  exact eqT_walk _ _ _ (Nat.lt_succ_self _) A0_1 c0_1 A0_2 c0_2 A1_1 c1_1 A1_2 c1_2 w hG hr0_1 hc0_1 hr0_2 hc0_2 hr1_1 hc1_1 hr1_2 hc1_2
end Go.Proofs.YtdojmdbaiddkgaaGreatDoor.Print
end
section
set_option linter.unusedVariables false
set_option linter.unusedSimpArgs false
namespace Go.Proofs.YtdojmdbaiddkgaaGreatDoor.Print
open Go.RowKit Go.Proofs.YtdojmdbaiddkgaaGreatDoorW.PrintWords Go.Proofs.YtdojmdbaiddkgaaGreatDoorW.PrintLast Go.Proofs.YtdojmdbaiddkgaaGreatDoorW.PrintMore
/-- An open component: its name, the two rows (as values, and what they hold). -/
structure Fr where
  nm : ByteArray
  vL : Value
  ls : List S49
  vK : Value
  ks : List S31
def frc : List Fr → List Value
  | [] => []
  | x :: t => .string x.nm :: x.vL :: x.vK :: frc t
theorem frc_append : ∀ a b : List Fr, frc (a ++ b) = frc a ++ frc b
  | [], _ => rfl
  | x :: t, b => by simp only [List.cons_append, frc]; rw [frc_append t b]
theorem frc_len : ∀ a : List Fr, (frc a).length = a.length * 3
  | [] => rfl
  | x :: t => by simp only [frc, List.length_cons]; rw [frc_len t]; omega
theorem frc_z0 (fr : List Fr) (a b c : Value) : (frc fr ++ [a, b, c])[fr.length * 3]? = some a := by rw [List.getElem?_append_right (by rw [frc_len]; omega), frc_len, Nat.sub_self]; rfl
theorem frc_z1 (fr : List Fr) (a b c : Value) : (frc fr ++ [a, b, c])[fr.length * 3 + 1]? = some b := by rw [List.getElem?_append_right (by rw [frc_len]; omega), frc_len, show fr.length * 3 + 1 - fr.length * 3 = 1 by omega]; rfl
theorem frc_z2 (fr : List Fr) (a b c : Value) : (frc fr ++ [a, b, c])[fr.length * 3 + 2]? = some c := by rw [List.getElem?_append_right (by rw [frc_len]; omega), frc_len, show fr.length * 3 + 2 - fr.length * 3 = 2 by omega]; rfl
/-- The rows of the open components: lines of colour 2i + 1, kids of colour 2i + 2. -/
def Cols (w : World) (b : Nat) (f : Nat → Nat) (fr : List Fr) : Prop := ∀ i x, fr[i]? = some x →
  Kd.R k49 49 w b (fun k => f k = 2 * i + 1) x.vL x.ls ∧ Kd.R k31 31 w b (fun k => f k = 2 * i + 2) x.vK x.ks
theorem typesLR : ∀ q, q ∈ 49 :: k49.E → q ≠ 65 := by decide
theorem typesTR : ∀ q, q ∈ 31 :: k31.E → q ≠ 65 := by decide
theorem R_stepG {α : Type} {d : Kd α} {e b g : Nat} {w w' : World} {ok ok' : Nat → Prop} {v : Value} {xs : List α} {cells : Array Value} (h : Kd.R d e w b ok v xs) (hb : w.heap[g]? = some (.cells cells 65 (0, 0))) (ht : ∀ q, q ∈ e :: d.E → q ≠ 65)
    (hm : ∀ k, ok k → k < w.heap.size → k ≠ g → w'.heap[k]? = w.heap[k]?) (hok : ∀ k, ok k → k < w.heap.size → ok' k) : Kd.R d e w' b ok' v xs :=
  Kd.R_mono (Kd.R_move (Kd.R_bound (Kd.R_types h hb ht)) (fun k hk => hm k hk.1.1 hk.2.2.1 hk.1.2)) (fun k hk => hok k hk.1.1 (by
    have := hk.2.2.1
    exact this))
theorem Cols.step {w w' : World} {b g : Nat} {f f' : Nat → Nat} {fr : List Fr} {cells : Array Value} (h : Cols w b f fr) (hb : w.heap[g]? = some (.cells cells 65 (0, 0)))
    (hm : ∀ k, f k ≠ 0 → k < w.heap.size → k ≠ g → w'.heap[k]? = w.heap[k]?) (hf : ∀ k, k < w.heap.size → f' k = f k) : Cols w' b f' fr := fun i x hx =>
  ⟨R_stepG (h i x hx).1 hb typesLR (fun k hk hl hg => hm k (by omega) hl hg) (fun k hk hl => (hf k hl).trans hk), R_stepG (h i x hx).2 hb typesTR (fun k hk hl hg => hm k (by omega) hl hg) (fun k hk hl => (hf k hl).trans hk)⟩
theorem Cols.nil (w : World) (b : Nat) (f : Nat → Nat) : Cols w b f [] := fun i x hx => by simp at hx
theorem Cols.snoc {w : World} {b : Nat} {f : Nat → Nat} {fr : List Fr} {x : Fr} (h : Cols w b f fr) (h1 : Kd.R k49 49 w b (fun k => f k = 2 * fr.length + 1) x.vL x.ls) (h2 : Kd.R k31 31 w b (fun k => f k = 2 * fr.length + 2) x.vK x.ks) : Cols w b f (fr ++ [x]) := fun i y hy => by
  rcases Nat.lt_trichotomy i fr.length with hi | hi | hi
  · rw [List.getElem?_append_left hi] at hy; exact h i y hy
  · subst hi
    rw [List.getElem?_append_right (Nat.le_refl _), Nat.sub_self] at hy
    obtain rfl : x = y := by simpa using hy
    exact ⟨h1, h2⟩
  · rw [List.getElem?_append_right (by omega)] at hy
    rw [List.getElem?_eq_none (by simp; omega)] at hy
    cases hy
/-- The reader's state. -/
def RSt (w : World) (g : Nat) (cs : Array Value) : Prop := w.heap[g]? = some (.cells cs 65 (0, 0))
theorem RSt.far {w : World} {g b j : Nat} {cs : Array Value} (h : RSt w g cs) (hne : g ≠ b) (u : Value) : RSt (w.setCell ⟨b, j, none⟩ u) g cs := blk_far h hne u
theorem RSt.set0 {w : World} {g : Nat} {a b c d e : Value} (h : RSt w g #[a, b, c, d, e]) (u : Value) : RSt (w.setCell ⟨g, 0, none⟩ u) g #[u, b, c, d, e] := blk_set h 0 u
theorem RSt.alloc {w : World} {g : Nat} {cs : Array Value} (h : RSt w g cs) (o : Obj) : RSt (w.alloc o) g cs := blk_alloc h o
structure TSt (w : World) (g : Nat) (fr : List Fr) (v : Value) (wr : World) : Prop where
  st : RSt wr g #[v, .string ⟨#[]⟩, .slice none 0 0, .slice none 0 0, .bool false]
  hg : w.heap.size ≤ g
  own : wr.ownsRow w.heap.size 31 3 v fr.length (frc fr)
  col : ∃ f : Nat → Nat, (∀ k, v.ownBlock = some k → f k = 0) ∧ Cols wr w.heap.size f fr
  bel : Below w.heap.size w wr
theorem TSt.gl {w : World} {g : Nat} {fr : List Fr} {v : Value} {wr : World} (h : TSt w g fr v wr) : g < wr.heap.size := blk_lt h.st
theorem TSt.ne {w : World} {g : Nat} {fr : List Fr} {v : Value} {wr : World} (h : TSt w g fr v wr) : some g ≠ v.ownBlock := own_ne h.own h.st (by decide)
/-- Nothing that was there has changed. -/
theorem TSt.below {w : World} {g : Nat} {fr : List Fr} {v : Value} {wr wr' : World} (h : TSt w g fr v wr) (hb : Below wr.heap.size wr wr') : TSt w g fr v wr' := by
  obtain ⟨f, f0, hc⟩ := h.col
  refine ⟨(hb.block g h.gl).trans h.st, h.hg, own_move h.own (fun k hk => hb.block k ?_), ⟨f, f0, hc.step h.st (fun k _ hl _ => hb.block k hl) (fun _ _ => rfl)⟩, below_then h.bel h.bel.size hb⟩
  obtain ⟨cells, hcl⟩ := own_typed h.own k hk
  exact blk_lt hcl
/-- The row's block. -/
theorem own_form3 {w : World} {base n : Nat} {v : Value} {xs : List Value} (h : w.ownsRow base 31 3 v n xs) (hn : 0 < n) : ∃ bk cap cur, v = .slice (some ⟨bk, 0, none⟩) n cap ∧ base ≤ bk ∧ w.heap[bk]? = some (.cells cur 31 (0, 0)) ∧ ∀ j, j < n * 3 → cur[j]? = xs[j]? := by
  rcases h.2 with ⟨_, h0⟩ | ⟨bk, cap, cur, rfl, h1, h2, h3, h4, h5, h6⟩
  · omega
  · refine ⟨bk, cap, cur, rfl, h1, h2, fun j hj => ?_⟩
    rw [← h6, ← Array.getElem?_toList, List.getElem?_take, if_pos hj]
/-- The row, its last element written anew. -/
theorem own_last3 {w w' : World} {base n bk cap : Nat} {cur : Array Value} {xs : List Value} {z0 z1 z2 a b c : Value} (h : w.ownsRow base 31 3 (.slice (some ⟨bk, 0, none⟩) (n + 1) cap) (n + 1) (xs ++ [z0, z1, z2])) (hx : xs.length = n * 3) (hc : w.heap[bk]? = some (.cells cur 31 (0, 0)))
    (h' : w'.heap[bk]? = some (.cells (((cur.setIfInBounds (n * 3) a).setIfInBounds (n * 3 + 1) b).setIfInBounds (n * 3 + 2) c) 31 (0, 0))) : w'.ownsRow base 31 3 (.slice (some ⟨bk, 0, none⟩) (n + 1) cap) (n + 1) (xs ++ [a, b, c]) := by
  obtain ⟨hl, h2⟩ := h
  refine ⟨by simp [hx]; omega, ?_⟩
  rcases h2 with ⟨hv, _⟩ | ⟨g, cap', cur', hv, hb, hh, h3, h4, h5, h6⟩
  · cases hv
  · injection hv with ha _ hcap
    injection ha with ha
    injection ha with ha _ _
    subst ha; subst hcap
    rw [hc] at hh
    obtain rfl : cur = cur' := by simpa using hh
    refine .inr ⟨bk, cap, _, rfl, hb, h', h3, h4, by simp [h5], ?_⟩
    have hsz : n * 3 + 3 ≤ cur.size := by rw [h5]; exact Nat.le_trans (by omega) (Nat.mul_le_mul_right 3 h3)
    refine List.ext_getElem? fun j => ?_
    have h6j := congrArg (fun l => l[j]?) h6
    simp only [List.getElem?_take] at h6j ⊢
    by_cases hj : j < (n + 1) * 3
    · rw [if_pos hj] at h6j ⊢
      rw [Array.getElem?_toList] at h6j ⊢
      rcases Nat.lt_or_ge j (n * 3) with hj1 | hj1
      · rw [Array.getElem?_setIfInBounds_ne (by omega), Array.getElem?_setIfInBounds_ne (by omega), Array.getElem?_setIfInBounds_ne (by omega), h6j, List.getElem?_append_left (by omega), List.getElem?_append_left (by omega)]
      · rw [List.getElem?_append_right (by omega), hx]
        obtain hj2 | hj2 | hj2 : j = n * 3 ∨ j = n * 3 + 1 ∨ j = n * 3 + 2 := by omega
        · subst hj2
          rw [Array.getElem?_setIfInBounds_ne (by omega), Array.getElem?_setIfInBounds_ne (by omega), Array.getElem?_setIfInBounds_self_of_lt (by omega), Nat.sub_self]; rfl
        · subst hj2
          rw [Array.getElem?_setIfInBounds_ne (by omega), Array.getElem?_setIfInBounds_self_of_lt (by simp; omega), show n * 3 + 1 - n * 3 = 1 by omega]; rfl
        · subst hj2
          rw [Array.getElem?_setIfInBounds_self_of_lt (by simp; omega), show n * 3 + 2 - n * 3 = 2 by omega]; rfl
    · rw [if_neg hj, List.getElem?_eq_none (by simp [hx]; omega)]
end Go.Proofs.YtdojmdbaiddkgaaGreatDoor.Print
end
section
set_option linter.unusedVariables false
set_option linter.unusedSimpArgs false
namespace Go.Proofs.YtdojmdbaiddkgaaGreatDoor.Print
open Go.RowKit Go.Proofs.YtdojmdbaiddkgaaGreatDoorW.PrintWords Go.Proofs.YtdojmdbaiddkgaaGreatDoorW.PrintLast Go.Proofs.YtdojmdbaiddkgaaGreatDoorW.PrintMore
def newFr (nm : ByteArray) : Fr := ⟨nm, .slice none 0 0, [], .slice none 0 0, []⟩
/-- What the state is behind an append to the row of the open ones, the new element written and the row stored. -/
theorem TSt.begun {w : World} {g : Nat} {fr : List Fr} {v : Value} {wr w1 w' : World} {bk cap : Nat} {cur : Array Value} {nm : ByteArray} (h : TSt w g fr v wr) (hown : w1.ownsRow w.heap.size 31 3 (.slice (some ⟨bk, 0, none⟩) (fr.length + 1) cap) (fr.length + 1) (frc fr ++ [.string ⟨#[]⟩, .slice none 0 0, .slice none 0 0]))
    (hcur : w1.heap[bk]? = some (.cells cur 31 (0, 0))) (hg : ∀ k, k < wr.heap.size → some k ≠ v.ownBlock → w1.heap[k]? = wr.heap[k]?) (hat : some bk = v.ownBlock ∨ wr.heap.size ≤ bk) (hB : Below w.heap.size w w')
    (hst : RSt w' g #[.slice (some ⟨bk, 0, none⟩) (fr.length + 1) cap, .string ⟨#[]⟩, .slice none 0 0, .slice none 0 0, .bool false])
    (hbk : w'.heap[bk]? = some (.cells (((cur.setIfInBounds (fr.length * 3) (.string nm)).setIfInBounds (fr.length * 3 + 1) (.slice none 0 0)).setIfInBounds (fr.length * 3 + 2) (.slice none 0 0)) 31 (0, 0)))
    (hm : ∀ k, k ≠ bk → k ≠ g → w'.heap[k]? = w1.heap[k]?) : TSt w g (fr ++ [newFr nm]) (.slice (some ⟨bk, 0, none⟩) (fr.length + 1) cap) w' := by
  obtain ⟨f, f0, hc⟩ := h.col
  have hbk0 : ∀ k, f k ≠ 0 → k < wr.heap.size → k ≠ bk := fun k hf hl e => by
    subst e
    rcases hat with e | e
    · exact hf (f0 k e.symm)
    · omega
  refine ⟨hst, h.hg, ?_, ⟨fun k => if k < wr.heap.size then f k else 0, fun k hk => ?_, ?_⟩, hB⟩
  · rw [List.length_append, frc_append]
    exact own_last3 hown (frc_len fr) hcur hbk
  · obtain rfl : bk = k := by simpa [Value.ownBlock] using hk
    show (if bk < wr.heap.size then f bk else 0) = 0
    rcases hat with e | e
    · rw [f0 bk e.symm]; simp
    · rw [if_neg (by omega)]
  · refine Cols.snoc (hc.step h.st (fun k hk hl hkg => ?_) (fun k hk => by rw [if_pos hk])) (Kd.R_nil _ _ _ _ _) (Kd.R_nil _ _ _ _ _)
    rw [hm k (hbk0 k hk hl) hkg]
    exact hg k hl (fun e => hk (f0 k e.symm))
set_option maxHeartbeats 1000000 in
set_option maxRecDepth 100000 in
theorem begins_full (w : World) (g : Nat) (fr : List Fr) (v : Value) (wr : World) (nm : ByteArray) (h : TSt w g fr v wr) (hn : fr.length = 4) :
    Calls Tryz.prog 57 #[.pointer (some ⟨g, 0, none⟩), .string nm] wr fun e w' => e = .returned (.int .i64 8) ∧ w' = wr := by
  obtain ⟨A, c, rfl⟩ := own_slice h.own
  have c0 := blk_cell h.st 0
  have f0 := blk_frozen h.st 0
  rw [hn] at c0
  clear h
  go_enter Tryz.func57, Tryz.ntmps57
  go_wp2
  go_ret
  exact ⟨rfl, rfl⟩
set_option maxHeartbeats 1000000 in
set_option maxRecDepth 100000 in
theorem begins_g (w : World) (g : Nat) (fr : List Fr) (v : Value) (wr : World) (nm : ByteArray) (h : TSt w g fr v wr) (hn : fr.length < 4) :
    Calls Tryz.prog 57 #[.pointer (some ⟨g, 0, none⟩), .string nm] wr fun e w' => e = .returned (.int .i64 0) ∧ ∃ v1, TSt w g (fr ++ [newFr nm]) v1 w' := by
  obtain ⟨A, c, hv⟩ := own_slice h.own
  have HT := Aside0.mk h
  have c0 := blk_cell h.st 0
  have f0 := blk_frozen h.st 0
  have hgl : g < wr.heap.size := h.gl
  have hgn := h.ne
  have hnd : (((fr.length : Nat) : Int) == 4) = false := beq_eq_false_iff_ne.2 (by omega)
  have hni : ((fr.length : Int) < (fr.length : Int) + 1) = True := eq_true (by omega)
  have hn0 : (0 ≤ (fr.length : Int)) = True := eq_true (by omega)
  rw [hv] at c0
  clear h
  go_enter Tryz.func57, Tryz.ntmps57
  go_wp2_with fail
  go_region_law (refine step_append_cells (w0 := w) (W := wr.drew) w.heap.size (by rfl) (.tmp 14) (.tmp 18) 29 31 (.agg #[.string ⟨#[]⟩, .slice none 0 0, .slice none 0 0]) 3 64 (by rfl) Tryz.underlying29 info31 (by rfl) (by decide) (by decide) (.slice A fr.length c) fr.length (frc fr) [.string ⟨#[]⟩, .slice none 0 0, .slice none 0 0] (by rfl) (by rfl) rfl (by intro u hu; simp at hu; rcases hu with rfl | rfl <;> rfl) (by rw [← hv]; exact HT.out.own) (below_drew HT.out.bel) HT.out.bel.size (by omega) ?_; intro v1 w1 hown hb hg hat; have HBB := Aside0.mk hb; obtain ⟨bk, cap, cur, rfl, hbk, hcur, hq⟩ := own_form3 hown (by omega)
                 have hgk : g ≠ bk := by
                   rcases hat with hat | ⟨b, hat, hb2⟩
                   · intro e; apply hgn; rw [hv, ← hat, e]; rfl
                   · have : bk = b := by simpa [Value.ownBlock] using hat
                     have : wr.heap.size ≤ b := hb2
                     omega
                 have hg1 : w1.heap[g]? = wr.heap[g]? := hg.block g hgl (by rw [← hv]; exact hgn)
                 have HRg := Aside0.mk (hg1.trans HT.out.st)
                 have d0 := blk_cell (hg1.trans HT.out.st) 0
                 have df := blk_frozen (hg1.trans HT.out.st) 0
                 have HCU := Aside0.mk hcur
                 have e0 := (blk_cell hcur (fr.length * 3)).trans ((hq (fr.length * 3) (by omega)).trans (frc_z0 fr _ _ _))
                 have e1 := (blk_cell hcur (fr.length * 3 + 1)).trans ((hq (fr.length * 3 + 1) (by omega)).trans (frc_z1 fr _ _ _))
                 have e2 := (blk_cell hcur (fr.length * 3 + 2)).trans ((hq (fr.length * 3 + 2) (by omega)).trans (frc_z2 fr _ _ _))
                 have z0 := blk_frozen hcur (fr.length * 3)
                 have z1 := blk_frozen hcur (fr.length * 3 + 1)
                 have z2 := blk_frozen hcur (fr.length * 3 + 2)
                 have HOWN := Aside0.mk hown
                 have HGR := Aside0.mk hg
                 have HAT := Aside0.mk hat
                 clear hown hb hg hat hg1 hcur hq)
  all_goals
    go_wp2_with fail
    go_ret
    refine ⟨rfl, _, TSt.begun HT.out HOWN.out HCU.out (fun k hk hne => HGR.out.block k hk (by rw [← hv]; exact hne)) ?_ ?_ ?_ ?_ ?_⟩
    · rcases HAT.out with e | ⟨b, e, hb⟩
      · left; rw [hv, ← e]; rfl
      · right; have : bk = b := by simpa [Value.ownBlock] using e
        have : wr.heap.size ≤ b := hb
        omega
    · repeat (first | with_reducible exact HBB.out | with_reducible refine Below.setCell (p := ⟨bk, _, none⟩) ?_ hbk _ | with_reducible refine Below.setCell (p := ⟨g, _, none⟩) ?_ HT.out.hg _)
    · have HRg := (show RSt w1 g #[v, .string ⟨#[]⟩, .slice none 0 0, .slice none 0 0, .bool false] from HRg.out)
      first
        | with_reducible exact RSt.set0 (RSt.far (RSt.far (RSt.far HRg hgk _) hgk _) hgk _) _
        | with_reducible exact RSt.far (RSt.far (RSt.far (RSt.set0 HRg _) hgk _) hgk _) hgk _
    · repeat (first | with_reducible exact HCU.out | with_reducible refine blk_far (p := ⟨g, 0, none⟩) ?_ (show bk ≠ g from Ne.symm hgk) _ | with_reducible refine blk_set ?_ _ _)
    · intro k hkb hkg
      repeat (first | with_reducible rfl | rw [Below.heap_setCell _ ⟨bk, _, none⟩ _ k hkb] | rw [Below.heap_setCell _ ⟨g, _, none⟩ _ k hkg])
end Go.Proofs.YtdojmdbaiddkgaaGreatDoor.Print
end
section
set_option linter.unusedVariables false
set_option linter.unusedSimpArgs false
namespace Go.Proofs.YtdojmdbaiddkgaaGreatDoor.Print
open Go.RowKit Go.Proofs.YtdojmdbaiddkgaaGreatDoorW.PrintWords Go.Proofs.YtdojmdbaiddkgaaGreatDoorW.PrintLast Go.Proofs.YtdojmdbaiddkgaaGreatDoorW.PrintMore
/-- The reader that has read all: what is done. -/
structure DSt (w : World) (g : Nat) (t : S31) (v vL vK : Value) (wr : World) : Prop where
  st : RSt wr g #[v, .string t.f0, vL, vK, .bool true]
  len : ∃ A c, v = .slice A 0 c
  hg : w.heap.size ≤ g
  rL : Kd.R k49 49 wr w.heap.size (fun _ => True) vL t.f1
  rK : Kd.R k31 31 wr w.heap.size (fun k_ => some k_ ≠ vL.ownBlock) vK t.f2
  bel : Below w.heap.size w wr
theorem RSt.cells {w : World} {g : Nat} {a b c d e : Value} (h : RSt w g #[a, b, c, d, e]) : w.cell? ⟨g, 0, none⟩ = some a ∧ w.cell? ⟨g, 1, none⟩ = some b ∧ w.cell? ⟨g, 2, none⟩ = some c ∧ w.cell? ⟨g, 3, none⟩ = some d ∧ w.cell? ⟨g, 4, none⟩ = some e :=
  ⟨blk_cell h 0, blk_cell h 1, blk_cell h 2, blk_cell h 3, blk_cell h 4⟩
theorem RSt.frozen {w : World} {g : Nat} {cs : Array Value} (h : RSt w g cs) (i : Nat) : w.frozen? ⟨g, i, none⟩ = false := blk_frozen h i
/-- The last open component's cells. -/
theorem last_cells {w : World} {base : Nat} {v : Value} {fr0 : List Fr} {x : Fr} (h : w.ownsRow base 31 3 v (fr0 ++ [x]).length (frc (fr0 ++ [x]))) : ∃ bk cap cur, v = .slice (some ⟨bk, 0, none⟩) (fr0.length + 1) cap ∧ base ≤ bk ∧ fr0.length + 1 ≤ cap ∧ w.heap[bk]? = some (.cells cur 31 (0, 0)) ∧
    w.cell? ⟨bk, fr0.length * 3, none⟩ = some (.string x.nm) ∧ w.cell? ⟨bk, fr0.length * 3 + 1, none⟩ = some x.vL ∧ w.cell? ⟨bk, fr0.length * 3 + 2, none⟩ = some x.vK := by
  rw [List.length_append, List.length_singleton, frc_append] at h
  obtain ⟨bk, cap, cur, rfl, hb, hc, hq⟩ := own_form3 h (by omega)
  have hle : fr0.length + 1 ≤ cap := by
    rcases h.2 with ⟨hv, _⟩ | ⟨_, _, _, hv, _, _, h3, _⟩
    · cases hv
    · injection hv with _ _ e; omega
  exact ⟨bk, cap, cur, rfl, hb, hle, hc, (blk_cell hc _).trans ((hq _ (by omega)).trans (frc_z0 fr0 _ _ _)), (blk_cell hc _).trans ((hq _ (by omega)).trans (frc_z1 fr0 _ _ _)), (blk_cell hc _).trans ((hq _ (by omega)).trans (frc_z2 fr0 _ _ _))⟩
set_option maxHeartbeats 1000000 in
set_option maxRecDepth 100000 in
theorem ends_bad (w : World) (g : Nat) (fr0 : List Fr) (x : Fr) (v : Value) (wr : World) (nm : ByteArray) (h : TSt w g (fr0 ++ [x]) v wr) (hne : x.nm ≠ nm) (hn : fr0.length < 4) :
    Calls Tryz.prog 58 #[.pointer (some ⟨g, 0, none⟩), .string nm] wr fun e w' => e = .returned (.int .i64 5) ∧ Below wr.heap.size wr w' := by
  obtain ⟨bk, cap, cur, rfl, hbk, hcap, hcur, e0, e1, e2⟩ := last_cells h.own
  obtain ⟨f, f0, hc⟩ := h.col
  obtain ⟨rL, rK⟩ := hc fr0.length x (by simp)
  obtain ⟨AL, cL, hL⟩ := Kd.R_slice rL
  obtain ⟨AK, cK, hK⟩ := Kd.R_slice rK
  rw [hL] at e1
  rw [hK] at e2
  obtain ⟨c0, c1, c2, c3, c4⟩ := h.st.cells
  have g0 := h.st.frozen 0
  have hw : IntKind.i64.wrap ((fr0.length : Int) + 1 - 1) = (fr0.length : Int) := by rw [i64_w]; unfold wrap64; omega
  have hni : ((fr0.length : Int) < (fr0.length : Int) + 1) = True := eq_true (by omega)
  have hn0 : (0 ≤ (fr0.length : Int)) = True := eq_true (by omega)
  have hnb : (x.nm.toList == nm.toList) = false := beq_eq_false_iff_ne.2 (fun e => hne (ba_toList e))
  clear h f0 hc rL rK hcur
  go_enter Tryz.func58, Tryz.ntmps58
  go_wp2
  go_ret
  exact ⟨rfl, below_alloc (Below.refl _ _) _⟩
theorem size_set (w : World) (p : Addr) (u : Value) : (w.setCell p u).heap.size = w.heap.size := by simp [World.setCell]
theorem five_same (w : World) (g : Nat) (a b c d e : Value) (o : Obj) : ∀ k, k < w.heap.size → k ≠ g → ((((((w.setCell ⟨g, 0, none⟩ a).setCell ⟨g, 1, none⟩ b).setCell ⟨g, 2, none⟩ c).setCell ⟨g, 3, none⟩ d).setCell ⟨g, 4, none⟩ e).alloc o).heap[k]? = w.heap[k]? := fun k hk hg => by
  rw [Below.heap_alloc _ _ _ (by rw [size_set, size_set, size_set, size_set, size_set]; exact hk), Below.heap_setCell _ ⟨g, 4, none⟩ _ k hg, Below.heap_setCell _ ⟨g, 3, none⟩ _ k hg, Below.heap_setCell _ ⟨g, 2, none⟩ _ k hg, Below.heap_setCell _ ⟨g, 1, none⟩ _ k hg, Below.heap_setCell _ ⟨g, 0, none⟩ _ k hg]
theorem five_bel {w0 w : World} {g : Nat} (h : Below w0.heap.size w0 w) (hg : w0.heap.size ≤ g) (a b c d e : Value) (o : Obj) : Below w0.heap.size w0 ((((((w.setCell ⟨g, 0, none⟩ a).setCell ⟨g, 1, none⟩ b).setCell ⟨g, 2, none⟩ c).setCell ⟨g, 3, none⟩ d).setCell ⟨g, 4, none⟩ e).alloc o) :=
  below_alloc (below_set (below_set (below_set (below_set (below_set h hg) hg) hg) hg) hg) o
theorem RSt.set1 {w : World} {g : Nat} {a b c d e : Value} (h : RSt w g #[a, b, c, d, e]) (u : Value) : RSt (w.setCell ⟨g, 1, none⟩ u) g #[a, u, c, d, e] := blk_set h 1 u
theorem RSt.set2 {w : World} {g : Nat} {a b c d e : Value} (h : RSt w g #[a, b, c, d, e]) (u : Value) : RSt (w.setCell ⟨g, 2, none⟩ u) g #[a, b, u, d, e] := blk_set h 2 u
theorem RSt.set3 {w : World} {g : Nat} {a b c d e : Value} (h : RSt w g #[a, b, c, d, e]) (u : Value) : RSt (w.setCell ⟨g, 3, none⟩ u) g #[a, b, c, u, e] := blk_set h 3 u
theorem RSt.set4 {w : World} {g : Nat} {a b c d e : Value} (h : RSt w g #[a, b, c, d, e]) (u : Value) : RSt (w.setCell ⟨g, 4, none⟩ u) g #[a, b, c, d, u] := blk_set h 4 u
set_option maxHeartbeats 1000000 in
set_option maxRecDepth 100000 in
theorem ends_one (w : World) (g : Nat) (x : Fr) (v : Value) (wr : World) (h : TSt w g [x] v wr) :
    Calls Tryz.prog 58 #[.pointer (some ⟨g, 0, none⟩), .string x.nm] wr fun e w' => e = .returned (.int .i64 0) ∧ ∃ v1, DSt w g ⟨x.nm, x.ls, x.ks⟩ v1 x.vL x.vK w' := by
  obtain ⟨bk, cap, cur, rfl, hbk, hcap, hcur, e0, e1, e2⟩ := last_cells (fr0 := []) h.own
  obtain ⟨f, f0, hc⟩ := h.col
  obtain ⟨rL, rK⟩ := hc 0 x rfl
  have hst := h.st
  have HRL : Aside0 (∀ w', (∀ k, k < wr.heap.size → k ≠ g → w'.heap[k]? = wr.heap[k]?) → Kd.R k49 49 w' w.heap.size (fun _ => True) x.vL x.ls) := ⟨fun w' hm => R_stepG rL hst typesLR (fun k _ hl hg => hm k hl hg) (fun _ _ _ => trivial)⟩
  have HRK : Aside0 (∀ w', (∀ k, k < wr.heap.size → k ≠ g → w'.heap[k]? = wr.heap[k]?) → Kd.R k31 31 w' w.heap.size (fun k_ => some k_ ≠ x.vL.ownBlock) x.vK x.ks) := ⟨fun w' hm => R_stepG rK hst typesTR (fun k _ hl hg => hm k hl hg) (fun k hk _ => Kd.R_away rL (fun j hj e => by subst e; omega))⟩
  have HST := Aside0.mk h.st
  have HG := Aside0.mk h.hg
  have HB := Aside0.mk h.bel
  have hgl := h.gl
  obtain ⟨AL, cL, hL⟩ := Kd.R_slice rL
  obtain ⟨AK, cK, hK⟩ := Kd.R_slice rK
  rw [hL] at e1
  rw [hK] at e2
  replace e0 : wr.cell? ⟨bk, 0, none⟩ = some (.string x.nm) := e0
  replace e1 : wr.cell? ⟨bk, 1, none⟩ = some (.slice AL x.ls.length cL) := e1
  replace e2 : wr.cell? ⟨bk, 2, none⟩ = some (.slice AK x.ks.length cK) := e2
  obtain ⟨c0, c1, c2, c3, c4⟩ := h.st.cells
  replace c0 : wr.cell? ⟨g, 0, none⟩ = some (.slice (some ⟨bk, 0, none⟩) 1 cap) := c0
  have g0 := h.st.frozen 0
  have g1 := h.st.frozen 1
  have g2 := h.st.frozen 2
  have g3 := h.st.frozen 3
  have g4 := h.st.frozen 4
  have hw : IntKind.i64.wrap ((0 : Int) + 1 - 1) = 0 := by rw [i64_w]; unfold wrap64; omega
  have hnb : (x.nm.toList == x.nm.toList) = true := beq_self_eq_true _
  have hcp : (0 ≤ (cap : Int)) = True := eq_true (by omega)
  clear h f0 hc rL rK hcur hst
  go_enter Tryz.func58, Tryz.ntmps58
  go_wp2
  go_ret
  have hst : RSt ((((((wr.setCell ⟨g, 0, none⟩ (.slice (some ⟨bk, 0, none⟩) 0 cap)).setCell ⟨g, 1, none⟩ (.string x.nm)).setCell ⟨g, 2, none⟩ (.slice AL x.ls.length cL)).setCell ⟨g, 3, none⟩ (.slice AK x.ks.length cK)).setCell ⟨g, 4, none⟩ (.bool true)).alloc (.cells #[.string x.nm, .slice AL x.ls.length cL, .slice AK x.ks.length cK] 31)) g #[.slice (some ⟨bk, 0, none⟩) 0 cap, .string x.nm, x.vL, x.vK, .bool true] := by
    rw [hL, hK]
    exact RSt.alloc (RSt.set4 (RSt.set3 (RSt.set2 (RSt.set1 (RSt.set0 HST.out _) _) _) _) _) _
  have hm := five_same wr g (.slice (some ⟨bk, 0, none⟩) 0 cap) (.string x.nm) (.slice AL x.ls.length cL) (.slice AK x.ks.length cK) (.bool true) (.cells #[.string x.nm, .slice AL x.ls.length cL, .slice AK x.ks.length cK] 31)
  exact ⟨rfl, _, ⟨hst, ⟨_, _, rfl⟩, HG.out, HRL.out _ hm, HRK.out _ hm, five_bel HB.out HG.out _ _ _ _ _ _⟩⟩
end Go.Proofs.YtdojmdbaiddkgaaGreatDoor.Print
end
