/- Texts of the proof of TreeFinds, put together: Print4 Print6 PLine0T TEq Print7 Print9 Print5 PTree TArgs TClone TRaw. -/
import Derived.Test.YtdojmdbaiddkgaaDoorProg
import Derived.Below
import Derived.Deep.Draws
import Derived.Deep.AppendLies
import Derived.Maps.AppendAt
import Derived.OwnWalk
import Derived.Laws.BytesArg
import Derived.Laws.MakeOwn
import Derived.Laws.OwnMore
import Derived.Deep.OwnRows
import Derived.Tactics
import Derived.Lib.ConvBytes
import Derived.Laws.Slices
import Derived.WalkKit
import Derived.KernelRfl
import Derived.RowKit3
import Derived.Deep.LoopGhost
import Derived.Deep.QuietTactic
import Derived.BigQuiet
import Derived.WideLaws
import Derived.Deep.DeepCutAuto
import Derived.Deep.CutBlock
import Derived.Deep.RegionHeld3
import Derived.Laws.Rows
import Derived.Lib.AppendStr
import Derived.ArgAppend
import Derived.Laws.IdiomCopy
import Derived.OrdersHeld
import Derived.Laws.BitsLemmas
import Derived.RowKit
import Derived.Test.YtdojmdbaiddkgaaDoorWMore
import Derived.Shelf.Unicode.ValidAny
import Derived.Shelf.Strings.Builder1
import Derived.Shelf.Small.Utf8
import Derived.Shelf.Small.Strs
import Derived.Shelf.Strings.BuilderF
import Derived.Shelf.Strings.BuilderK
import Derived.Shelf.Strings.Search1
import Derived.Shelf.Strings.Prefix
import Derived.Shelf.Strings.Runes
import Derived.Shelf.Strings.IndexAny
import Derived.Shelf.Strings.AsciiSet
import Derived.Shelf.Strings.IndexAnyAll
import Derived.Shelf.Strings.BuilderCap
import Derived.Shelf.Slices.Equal
import Derived.Ground.Names2Prog
import Derived.Shelf.Slices.Clone
import Derived.Shelf.Slices.Empties2
import Derived.WalkSpells
import Derived.Laws.Runes
import Derived.Laws.RangeAny
import Derived.Laws.RangeString
import Derived.Lib.IndexAny
import Derived.Lib.SpaceUEq
import Derived.Lib.RuneCount
import Derived.Lib.QuoteLoop
import Derived.Lib.Hide
import Derived.Lib.OthersKept
import Derived.Lib.DecodeN
import Derived.IntWalk
import Derived.Test.YtdojmdbaiddkgaaDoorWWords
import Derived.Test.YtdojmdbaiddkgaaDoorWLast
import Derived.Test.YtdojmdbaiddkgaaDoorWTab
import Derived.Test.YtdojmdbaiddkgaaDoorWQPut
import Derived.Test.YtdojmdbaiddkgaaDoorWApart
import Derived.Test.YtdojmdbaiddkgaaDoorWArr
import Derived.Test.YtdojmdbaiddkgaaDoorWZeros
import Derived.Test.YtdojmdbaiddkgaaDoorWFoot
import Derived.Test.YtdojmdbaiddkgaaDoorWKept
import Derived.Test.YtdojmdbaiddkgaaDoorWShare
import Derived.Test.YtdojmdbaiddkgaaDoorWN
import Derived.Test.YtdojmdbaiddkgaaDoorWRepsOne
import Derived.Test.YtdojmdbaiddkgaaDoorWInv
import Derived.Test.YtdojmdbaiddkgaaDoorWGuard
import Derived.Test.YtdojmdbaiddkgaaDoorWNEv
import Derived.Laws.IdiomStrings
import Derived.Outline
import Derived.Deep.RegionWith
import Derived.RegionCalls
import Derived.Lib.SmallJoins
import Derived.SliceStrings
import Derived.ProofKit
import Derived.SizedLaws
import Derived.Deep.Slices
import Derived.Test.YtdojmdbaiddkgaaDoorQTreeFindsA
section
namespace Go.Proofs.YtdojmdbaiddkgaaDoor.Print
open Go.RowKit Go.Proofs.YtdojmdbaiddkgaaDoorW.PrintWords Go.Proofs.YtdojmdbaiddkgaaDoorW.PrintLast Go.Proofs.YtdojmdbaiddkgaaDoorW.PrintMore
set_option linter.unusedVariables false
set_option linter.unusedSimpArgs false
mutual
def tree_Count.l0 : Nat → Int → List (S32) → Int → Int → Option (Int)
 | 0, _, _, _, _ => none
 | k + 1, x3, x11, x12, x13 => if x13 < x12 then (if 0 ≤ x13 then (if x13 < (x11.length : Int) then ((tree_Count.f k ((rd_T32 x11 x13).f0) ((rd_T32 x11 x13).f1) ((rd_T32 x11 x13).f2)).bind fun t131 => (tree_Count.l0 k (wrap64 (x3 + t131)) x11 x12 (wrap64 (x13 + 1)))) else (none)) else (none)) else (some x3)
def tree_Count.f : Nat → ByteArray → List (S37) → List (S32) → Option (Int)
 | 0, _, _, _ => none
 | k + 1, a0_0, l0_1, l0_2 => tree_Count.l0 k (wrap64 (2 + (l0_1.length : Int))) l0_2 (l0_2.length : Int) 0
end
theorem tree_Count.mono_l : ∀ k, (∀ y0 y1 y2, LeO (tree_Count.f k y0 y1 y2) (tree_Count.f (k + 1) y0 y1 y2)) ∧ (∀ y0 y1 y2 y3, LeO (tree_Count.l0 k y0 y1 y2 y3) (tree_Count.l0 (k + 1) y0 y1 y2 y3))
 | 0 => ⟨fun _ _ _ r h => by simp [tree_Count.f] at h, fun _ _ _ _ r h => by simp [tree_Count.l0] at h⟩
 | k + 1 => by
  obtain ⟨ih0, ih1⟩ := tree_Count.mono_l k
  refine ⟨?_, ?_⟩
  all_goals intros
  all_goals first | unfold tree_Count.f | unfold tree_Count.l0
  all_goals repeat' first
   | (with_reducible first | exact ih0 _ _ _ | exact ih1 _ _ _ _ | exact LeO.refl _ | exact LeO.none _ | refine LeO.ite ?_ ?_ | refine LeO.bind ?_ (fun _ => ?_)) | exact ih0 _ _ _ | exact ih1 _ _ _ _ | exact LeO.none _ | refine LeO.ite ?_ ?_ | refine LeO.bind ?_ (fun _ => ?_)
theorem tree_Count.mono : ∀ a0 a1 a2 k, LeO (tree_Count.f k a0 a1 a2) (tree_Count.f (k + 1) a0 a1 a2) := by
 intro a0 a1 a2 k
 obtain ⟨ih0, ih1⟩ := tree_Count.mono_l k
 exact ih0 a0 a1 a2
set_option maxHeartbeats 8000000 in
set_option maxRecDepth 100000 in
theorem tree_Count.calls (k : Nat) : ∀ (a0_0 : ByteArray) (A0_1 : Option Addr) (c0_1 : Nat) (l0_1 : List (S37)) (A0_2 : Option Addr) (c0_2 : Nat) (l0_2 : List (S32)) (r : Int) (w : World) (hG : GG w) (hr0_1 : Kd.C k37 w A0_1 l0_1.length l0_1) (hc0_1 : l0_1.length ≤ c0_1) (hr0_2 : Kd.C k32 w A0_2 l0_2.length l0_2) (hc0_2 : l0_2.length ≤ c0_2) (h : tree_Count.f k a0_0 l0_1 l0_2 = some r),
  Calls Tryd.prog 14 #[.agg #[.string a0_0, .slice A0_1 l0_1.length c0_1, .slice A0_2 l0_2.length c0_2]] w fun e w' => e = .returned (.int .i64 r) ∧ Below w.heap.size w w' := by
 induction k using Nat.strongRecOn with
 | _ k ih =>
 intro a0_0 A0_1 c0_1 l0_1 A0_2 c0_2 l0_2 r w hG hr0_1 hc0_1 hr0_2 hc0_2 h
 cases k with
 | zero => exact absurd h (by simp [tree_Count.f])
 | succ k =>
 simp only [tree_Count.f] at h; have hu32 := Tryd.underlying32; have HR0_1 := Aside0.mk hr0_1; have HC0_1 := Aside0.mk hc0_1; clear hr0_1 hc0_1; have HR0_2 := Aside0.mk hr0_2; have HC0_2 := Aside0.mk hc0_2; clear hr0_2 hc0_2; have HB := Aside0.mk (Below.refl w.heap.size w); have H : (tree_Count.l0 k (wrap64 (2 + (l0_1.length : Int))) l0_2 (l0_2.length : Int) 0) = some r := h; clear h; have H' := Aside0.mk H; clear H
 go_enter Tryd.func14, Tryd.ntmps14
 go_wp2_with (first | ((with_reducible refine gate_dst (N := 1) rfl ?_); refine zbox (N := 1) #[.string a0_0, .slice A0_1 l0_1.length c0_1, .slice A0_2 l0_2.length c0_2] 32 (fun gb128 hg w2 hbox hb => ?_); have n0_ := zw hb; have n1_ := Aside0.mk hbox; have n2_ := zg w hg; have n3_ := zg w hg; clear HB; have HB := n0_; have BK128 := n1_; have GW128 := n2_; have GE128 := n3_; clear n0_ n1_ n2_ n3_; clear hb hbox hg; have hcz3_0 := zc0 BK128; have hcz3_1 := zc1 BK128; have hcz3_2 := zc2 BK128; have hfz3_0 := zf BK128 0; have hfz3_1 := zf BK128 1; have hfz3_2 := zf BK128 2))
 go_loopg [3, 13] k (fun kq v3 v13 w' => ∃ (x3_1 : Int) (x13_1 : Int), v3 = .int .i64 x3_1 ∧ v13 = .int .i64 x13_1 ∧ Aside0 (tree_Count.l0 kq x3_1 l0_2 (l0_2.length : Int) x13_1 = some r) ∧ Aside0 (kq ≤ k) ∧ Aside0 (w'.heap[gb128]? = some (.cells #[.string a0_0, (.slice A0_1 l0_1.length c0_1), (.slice A0_2 l0_2.length c0_2)] 32 (0, 0))) ∧ Aside0 (Below w.heap.size w w'))
 case atStart => exact ⟨(wrap64 (2 + (l0_1.length : Int))), (0), zS, zS, H', ⟨Nat.le_refl _⟩, ⟨blk_below BK128.out zX⟩, ⟨zB⟩⟩
 case round =>
  clear H'; clear hcz3_0 hcz3_1 hcz3_2 hfz3_0 hfz3_1 hfz3_2; obtain ⟨x3_1, x13_1, rfl, rfl, HA, HK1, BK128, HB⟩ := hrel
  cases gk with
  | zero => exact absurd HA.out (by simp [tree_Count.l0])
  | succ k1 =>
   have H := HA.out; clear HA; simp only [tree_Count.l0] at H; replace H := zId H; rcases H with ⟨-, c4b0, H⟩ | ⟨-, c4b0, H⟩
   ·replace H := zJd H; obtain ⟨-, c5b0, H⟩ := H; replace H := zJd H; obtain ⟨-, c6b0, H⟩ := H; replace H := Option.bind_eq_some_iff.mp H; obtain ⟨t131, A70, H⟩ := H; replace H : (tree_Count.l0 k1 (wrap64 (x3_1 + t131)) l0_2 (l0_2.length : Int) (wrap64 (x13_1 + 1))) = some r := H; have A7 := Aside0.mk A70; clear A70; have H' := Aside0.mk H; clear H; have p129 := zQ (0 ≤ (x13_1 : Int)); have q129 := zQ (x13_1 < (l0_2.length : Int)); obtain ⟨ad129, A129_1, c129_1, A129_2, c129_2, e129, hx129_0, hx129_1, hx129_2, hl129_1, hi129_1, hl129_2, hi129_2⟩ := at_T32 HR0_2.out x13_1 p129 q129
    cases e129
    replace hx129_0 := zx HB hx129_0; replace hx129_1 := zx HB hx129_1; replace hx129_2 := zx HB hx129_2; have HR129_1 := Aside0.mk hi129_1; have HC129_1 := Aside0.mk hl129_1; clear hi129_1 hl129_1; have HR129_2 := Aside0.mk hi129_2; have HC129_2 := Aside0.mk hl129_2; clear hi129_2 hl129_2; replace p129 := eq_true p129; replace q129 := eq_true q129
    go_wp2_with (first | ((with_reducible refine gate_dst (N := 5) rfl ?_); refine zbox (N := 5) #[.string (⟨#[]⟩ : ByteArray), .slice none 0 0, .slice none 0 0] 32 (fun gb130 hg w8 hbox hb => ?_); replace BK130 := Aside0.mk hbox; replace GW130 := zg w hg; replace GE130 := zg w hg; replace HB := zw hb; replace NB128_130 := zn BK128 hg; replace NB130_128 := zm BK128 hg; replace BK128 := zb BK128 hb; clear hb hbox hg; have hnb9 := NB130_128.out; have hnc9 := NB128_130.out; have hcz10_0 := zc0 BK130; have hcz10_1 := zc1 BK130; have hcz10_2 := zc2 BK130; have hfz10_0 := zf BK130 0; have hfz10_1 := zf BK130 1; have hfz10_2 := zf BK130 2) | ((with_reducible refine gate_callee (f := 14) rfl ?_); refine goesL_ (some 19) rfl rfl Tryd.func14 (by kernel_rfl) rfl #[.agg #[.string ((rd_T32 l0_2 x13_1).f0), .slice A129_1 ((rd_T32 l0_2 x13_1).f1).length c129_1, .slice A129_2 ((rd_T32 l0_2 x13_1).f2).length c129_2]] rfl zA ?_; (with_reducible refine (ih k1 (by have := HK1.out; omega) ((rd_T32 l0_2 x13_1).f0) _ _ ((rd_T32 l0_2 x13_1).f1) _ _ ((rd_T32 l0_2 x13_1).f2) t131 _ zG ?side1 ?side2 ?side3 ?side4 A7.out).mono ?_); (case side1 => exact Kd.C_below HR129_1.out zB); (case side2 => exact HC129_1.out); (case side3 => exact Kd.C_below HR129_2.out zB); (case side4 => exact HC129_2.out); rintro e w11 ⟨rfl, hb⟩; refine ⟨_, rfl, ?_⟩; replace BK128 := Aside0.mk (blk_below (g := gb128) (o := .cells #[.string a0_0, .slice A0_1 l0_1.length c0_1, .slice (some ad129) l0_2.length c0_2] 32 (0, 0)) (by (with_reducible repeat (first | refine blk_drewN ?_ _ | refine blk_drew ?_ | refine blk_alloc ?_ _)); refine blk_far ?_ NB128_130.out _; (with_reducible repeat (first | refine blk_drewN ?_ _ | refine blk_drew ?_ | refine blk_alloc ?_ _)); refine blk_far ?_ NB128_130.out _; (with_reducible repeat (first | refine blk_drewN ?_ _ | refine blk_drew ?_ | refine blk_alloc ?_ _)); refine blk_far ?_ NB128_130.out _; (with_reducible repeat (first | refine blk_drewN ?_ _ | refine blk_drew ?_ | refine blk_alloc ?_ _)); exact BK128.out) hb); replace BK130 := Aside0.mk (blk_below (g := gb130) (o := .cells #[.string ((rd_T32 l0_2 x13_1).f0), .slice A129_1 ((rd_T32 l0_2 x13_1).f1).length c129_1, .slice A129_2 ((rd_T32 l0_2 x13_1).f2).length c129_2] 32 (0, 0)) (by (with_reducible repeat (first | refine blk_drewN ?_ _ | refine blk_drew ?_ | refine blk_alloc ?_ _)); refine blk_put (cs := #[.string ((rd_T32 l0_2 x13_1).f0), .slice A129_1 ((rd_T32 l0_2 x13_1).f1).length c129_1, .slice none 0 0]) ?_ 2 _ rfl; (with_reducible repeat (first | refine blk_drewN ?_ _ | refine blk_drew ?_ | refine blk_alloc ?_ _)); refine blk_put (cs := #[.string ((rd_T32 l0_2 x13_1).f0), .slice none 0 0, .slice none 0 0]) ?_ 1 _ rfl; (with_reducible repeat (first | refine blk_drewN ?_ _ | refine blk_drew ?_ | refine blk_alloc ?_ _)); refine blk_put (cs := #[.string (⟨#[]⟩ : ByteArray), .slice none 0 0, .slice none 0 0]) ?_ 0 _ rfl; (with_reducible repeat (first | refine blk_drewN ?_ _ | refine blk_drew ?_ | refine blk_alloc ?_ _)); exact BK130.out) hb); replace HB := zw hb; (try clear hb)))
    go_roundg k1
    case measure => have := HK1.out; omega
    case rel => exact ⟨(wrap64 (x3_1 + t131)), (wrap64 (x13_1 + 1)), zS, zS, H', ⟨by have := HK1.out; omega⟩, ⟨blk_below BK128.out zX⟩, ⟨zB⟩⟩
   ·obtain rfl := Option.some.inj H; go_wp2; go_ret; exact ⟨zE, zB⟩
def trystlaw11_awake.f (k : Nat)  : Option (Bool) := (tree_Parse.f (⟨#[66, 69, 71, 73, 78, 58, 65, 13, 10, 69, 78, 68, 58, 65, 13, 10]⟩ : ByteArray)).bind fun bt132 => (if bt132.2.2.2.2 = 0 then (if bt132.2.2.2.1 = 0 then (if bt132.1.toList = ([65] : List UInt8) then ((tree_Count.f k bt132.1 bt132.2.1 bt132.2.2.1).bind fun t142 => (some (t142 == 2))) else (some false)) else (some false)) else (some false))
theorem trystlaw11_awake.mono : ∀ k, LeO (trystlaw11_awake.f k ) (trystlaw11_awake.f (k + 1) ) := by
 intro  k
 unfold trystlaw11_awake.f
 repeat' first
   | (with_reducible first | exact tree_Count.mono _ _ _ _ | exact LeO.refl _ | exact LeO.none _ | refine LeO.ite ?_ ?_ | refine LeO.bind ?_ (fun _ => ?_)) | exact tree_Count.mono _ _ _ _ | exact LeO.none _ | refine LeO.ite ?_ ?_ | refine LeO.bind ?_ (fun _ => ?_)
set_option maxHeartbeats 8000000 in
set_option maxRecDepth 100000 in
theorem trystlaw11_awake.calls (k : Nat)  (r : Bool) (w : World) (hG : GG w) (h : trystlaw11_awake.f k  = some r) :
  Calls Tryd.prog 4 #[] w fun e w' => e = .returned (.bool r) ∧ Below w.heap.size w w' := by
 have hu32 := Tryd.underlying32; have HB := Aside0.mk (Below.refl w.heap.size w); have H : ((tree_Parse.f (⟨#[66, 69, 71, 73, 78, 58, 65, 13, 10, 69, 78, 68, 58, 65, 13, 10]⟩ : ByteArray)).bind fun bt132 => (if bt132.2.2.2.2 = 0 then (if bt132.2.2.2.1 = 0 then (if bt132.1.toList = ([65] : List UInt8) then ((tree_Count.f k bt132.1 bt132.2.1 bt132.2.2.1).bind fun t142 => (some (t142 == 2))) else (some false)) else (some false)) else (some false))) = some r := h; clear h; replace H := Option.bind_eq_some_iff.mp H; obtain ⟨⟨t132, t133, t136, t139, t140⟩, A10, H⟩ := H; replace H : (if t140 = 0 then (if t139 = 0 then (if t132.toList = ([65] : List UInt8) then ((tree_Count.f k t132 t133 t136).bind fun t142 => (some (t142 == 2))) else (some false)) else (some false)) else (some false)) = some r := H; have A1 := Aside0.mk A10; clear A10
 replace H := zIe H; rcases H with ⟨-, c2b0, c2b1, H⟩ | ⟨c2, c2b0, c2b1, H⟩
 ·replace H := zIe H; rcases H with ⟨-, c3b0, c3b1, H⟩ | ⟨c3, c3b0, c3b1, H⟩
  ·replace H := zIe H; rcases H with ⟨-, c4b0, c4b1, H⟩ | ⟨c4, c4b0, c4b1, H⟩
   ·replace H := Option.bind_eq_some_iff.mp H; obtain ⟨t142, A50, H⟩ := H; replace H : (some (t142 == 2)) = some r := H; have A5 := Aside0.mk A50; clear A50; obtain rfl := Option.some.inj H
    go_enter Tryd.func4, Tryd.ntmps4
    go_wp2_with (first | ((with_reducible refine gate_callee (f := 13) rfl ?_); refine goesL_ (some 5) rfl rfl Tryd.func13 (by kernel_rfl) rfl #[.string (⟨#[66, 69, 71, 73, 78, 58, 65, 13, 10, 69, 78, 68, 58, 65, 13, 10]⟩ : ByteArray)] rfl zA ?_; (with_reducible refine (tree_Parse.calls (⟨#[66, 69, 71, 73, 78, 58, 65, 13, 10, 69, 78, 68, 58, 65, 13, 10]⟩ : ByteArray) t132 t133 t136 t139 t140 _ zG A1.out).mono ?_); rintro e w6 ⟨v134, v137, rfl, ho0, ho1, hb⟩; refine ⟨_, rfl, ?_⟩; replace HO135 := Aside0.mk (Kd.R_lower ho0 (below_size zB)); replace HO138 := Aside0.mk (Kd.R_lower ho1 (below_size zB)); replace HB := zw hb; (try clear hb); (try clear ho0); (try clear ho1)) | ((with_reducible refine gate_dst (N := 1) rfl ?_); refine zbox (N := 1) #[.string (⟨#[]⟩ : ByteArray), .slice none 0 0, .slice none 0 0] 32 (fun gb141 hg w7 hbox hb => ?_); have n0_ := Aside0.mk (Kd.R_below (Kd.R_below HO135.out zX) hb); have n1_ := Aside0.mk (Kd.R_below (Kd.R_elderB (Kd.R_below HO138.out zX) gb141 (Nat.le_of_eq hg.symm)) hb); have n2_ := zw hb; have n3_ := Aside0.mk hbox; have n4_ := zg w hg; have n5_ := zg w hg; clear HO135; clear HO138; clear HB; have HO135 := n0_; have HO138 := n1_; have HB := n2_; have BK141 := n3_; have GW141 := n4_; have GE141 := n5_; clear n0_ n1_ n2_ n3_ n4_ n5_; clear hb hbox hg; have hcz8_0 := zc0 BK141; have hcz8_1 := zc1 BK141; have hcz8_2 := zc2 BK141; have hfz8_0 := zf BK141 0; have hfz8_1 := zf BK141 1; have hfz8_2 := zf BK141 2; obtain ⟨Ao9, co9, eo9⟩ := Kd.R_slice HO135.out; subst eo9; obtain ⟨Ao10, co10, eo10⟩ := Kd.R_slice HO138.out; subst eo10) | (go_at_call 14; (with_reducible refine (tree_Count.calls k t132 _ _ t133 _ _ t136 t142 _ zG ?side1 ?side2 ?side3 ?side4 A5.out).mono ?_); (case side1 => refine (Kd.R_reads' (e := 37) (base := w.heap.size) (ok := fun k_ => True) (n := t133.length) (c := co9) ?_).2.2; exact (by (with_reducible repeat (first | apply Kd.R_alloc | apply Kd.R_drewN | apply Kd.R_drew)); exact (Kd.R_mono (Kd.R_far (p := ⟨gb141, 2, none⟩) (Kd.R_far (p := ⟨gb141, 1, none⟩) (Kd.R_far (p := ⟨gb141, 0, none⟩) (Kd.R_types HO135.out BK141.out (by decide)) (fun _ hk => hk.2) (.string t132)) (fun _ hk => hk.2) (.slice Ao9 t133.length co9)) (fun _ hk => hk.2) (.slice Ao10 t136.length co10)) (fun _ h_ => h_.1)))); (case side2 => exact (Kd.R_reads' HO135.out).2.1); (case side3 => refine (Kd.R_reads' (e := 32) (base := w.heap.size) (ok := fun k_ => (some k_ ≠ (.slice Ao9 t133.length co9 : Value).ownBlock ∧ k_ ≠ gb141)) (n := t136.length) (c := co10) ?_).2.2; exact (by (with_reducible repeat (first | apply Kd.R_alloc | apply Kd.R_drewN | apply Kd.R_drew)); exact (Kd.R_mono (Kd.R_far (p := ⟨gb141, 2, none⟩) (Kd.R_far (p := ⟨gb141, 1, none⟩) (Kd.R_far (p := ⟨gb141, 0, none⟩) (Kd.R_mono HO138.out (fun k_ hk => (⟨hk, hk.2⟩ : _ ∧ k_ ≠ gb141))) (fun _ hk => hk.2) (.string t132)) (fun _ hk => hk.2) (.slice Ao9 t133.length co9)) (fun _ hk => hk.2) (.slice Ao10 t136.length co10)) (fun _ h_ => h_.1)))); (case side4 => exact (Kd.R_reads' HO138.out).2.1); rintro e w11 ⟨rfl, hb⟩; replace HO135 := Aside0.mk (Kd.R_below (by (with_reducible repeat (first | apply Kd.R_alloc | apply Kd.R_drewN | apply Kd.R_drew)); exact (Kd.R_mono (Kd.R_far (p := ⟨gb141, 2, none⟩) (Kd.R_far (p := ⟨gb141, 1, none⟩) (Kd.R_far (p := ⟨gb141, 0, none⟩) (Kd.R_types HO135.out BK141.out (by decide)) (fun _ hk => hk.2) (.string t132)) (fun _ hk => hk.2) (.slice Ao9 t133.length co9)) (fun _ hk => hk.2) (.slice Ao10 t136.length co10)) (fun _ h_ => h_.1))) hb); replace HO138 := Aside0.mk (Kd.R_below (by (with_reducible repeat (first | apply Kd.R_alloc | apply Kd.R_drewN | apply Kd.R_drew)); exact (Kd.R_mono (Kd.R_far (p := ⟨gb141, 2, none⟩) (Kd.R_far (p := ⟨gb141, 1, none⟩) (Kd.R_far (p := ⟨gb141, 0, none⟩) (Kd.R_mono HO138.out (fun k_ hk => (⟨hk, hk.2⟩ : _ ∧ k_ ≠ gb141))) (fun _ hk => hk.2) (.string t132)) (fun _ hk => hk.2) (.slice Ao9 t133.length co9)) (fun _ hk => hk.2) (.slice Ao10 t136.length co10)) (fun _ h_ => h_.1))) hb); replace BK141 := Aside0.mk (blk_below (g := gb141) (o := .cells #[.string t132, .slice Ao9 t133.length co9, .slice Ao10 t136.length co10] 32 (0, 0)) (by (with_reducible repeat (first | refine blk_drewN ?_ _ | refine blk_drew ?_ | refine blk_alloc ?_ _)); refine blk_put (cs := #[.string t132, .slice Ao9 t133.length co9, .slice none 0 0]) ?_ 2 _ rfl; (with_reducible repeat (first | refine blk_drewN ?_ _ | refine blk_drew ?_ | refine blk_alloc ?_ _)); refine blk_put (cs := #[.string t132, .slice none 0 0, .slice none 0 0]) ?_ 1 _ rfl; (with_reducible repeat (first | refine blk_drewN ?_ _ | refine blk_drew ?_ | refine blk_alloc ?_ _)); refine blk_put (cs := #[.string (⟨#[]⟩ : ByteArray), .slice none 0 0, .slice none 0 0]) ?_ 0 _ rfl; (with_reducible repeat (first | refine blk_drewN ?_ _ | refine blk_drew ?_ | refine blk_alloc ?_ _)); exact BK141.out) hb); replace HB := zw hb; (try clear hb)))
    go_ret; exact ⟨zE, zB⟩
   ·obtain rfl := Option.some.inj H
    go_enter Tryd.func4, Tryd.ntmps4
    go_wp2_with (first | ((with_reducible refine gate_callee (f := 13) rfl ?_); refine goesL_ (some 5) rfl rfl Tryd.func13 (by kernel_rfl) rfl #[.string (⟨#[66, 69, 71, 73, 78, 58, 65, 13, 10, 69, 78, 68, 58, 65, 13, 10]⟩ : ByteArray)] rfl zA ?_; (with_reducible refine (tree_Parse.calls (⟨#[66, 69, 71, 73, 78, 58, 65, 13, 10, 69, 78, 68, 58, 65, 13, 10]⟩ : ByteArray) t132 t133 t136 t139 t140 _ zG A1.out).mono ?_); rintro e w12 ⟨v134, v137, rfl, ho0, ho1, hb⟩; refine ⟨_, rfl, ?_⟩; replace HO135 := Aside0.mk (Kd.R_lower ho0 (below_size zB)); replace HO138 := Aside0.mk (Kd.R_lower ho1 (below_size zB)); replace HB := zw hb; (try clear hb); (try clear ho0); (try clear ho1)) | ((with_reducible refine gate_dst (N := 1) rfl ?_); refine zbox (N := 1) #[.string (⟨#[]⟩ : ByteArray), .slice none 0 0, .slice none 0 0] 32 (fun gb141 hg w13 hbox hb => ?_); have n0_ := Aside0.mk (Kd.R_below (Kd.R_below HO135.out zX) hb); have n1_ := Aside0.mk (Kd.R_below (Kd.R_elderB (Kd.R_below HO138.out zX) gb141 (Nat.le_of_eq hg.symm)) hb); have n2_ := zw hb; have n3_ := Aside0.mk hbox; have n4_ := zg w hg; have n5_ := zg w hg; clear HO135; clear HO138; clear HB; have HO135 := n0_; have HO138 := n1_; have HB := n2_; have BK141 := n3_; have GW141 := n4_; have GE141 := n5_; clear n0_ n1_ n2_ n3_ n4_ n5_; clear hb hbox hg; have hcz14_0 := zc0 BK141; have hcz14_1 := zc1 BK141; have hcz14_2 := zc2 BK141; have hfz14_0 := zf BK141 0; have hfz14_1 := zf BK141 1; have hfz14_2 := zf BK141 2; obtain ⟨Ao15, co15, eo15⟩ := Kd.R_slice HO135.out; subst eo15; obtain ⟨Ao16, co16, eo16⟩ := Kd.R_slice HO138.out; subst eo16))
    go_ret; exact ⟨zE, zB⟩
  ·obtain rfl := Option.some.inj H
   go_enter Tryd.func4, Tryd.ntmps4
   go_wp2_with (first | ((with_reducible refine gate_callee (f := 13) rfl ?_); refine goesL_ (some 5) rfl rfl Tryd.func13 (by kernel_rfl) rfl #[.string (⟨#[66, 69, 71, 73, 78, 58, 65, 13, 10, 69, 78, 68, 58, 65, 13, 10]⟩ : ByteArray)] rfl zA ?_; (with_reducible refine (tree_Parse.calls (⟨#[66, 69, 71, 73, 78, 58, 65, 13, 10, 69, 78, 68, 58, 65, 13, 10]⟩ : ByteArray) t132 t133 t136 t139 t140 _ zG A1.out).mono ?_); rintro e w17 ⟨v134, v137, rfl, ho0, ho1, hb⟩; refine ⟨_, rfl, ?_⟩; replace HO135 := Aside0.mk (Kd.R_lower ho0 (below_size zB)); replace HO138 := Aside0.mk (Kd.R_lower ho1 (below_size zB)); replace HB := zw hb; (try clear hb); (try clear ho0); (try clear ho1)) | ((with_reducible refine gate_dst (N := 1) rfl ?_); refine zbox (N := 1) #[.string (⟨#[]⟩ : ByteArray), .slice none 0 0, .slice none 0 0] 32 (fun gb141 hg w18 hbox hb => ?_); have n0_ := Aside0.mk (Kd.R_below (Kd.R_below HO135.out zX) hb); have n1_ := Aside0.mk (Kd.R_below (Kd.R_elderB (Kd.R_below HO138.out zX) gb141 (Nat.le_of_eq hg.symm)) hb); have n2_ := zw hb; have n3_ := Aside0.mk hbox; have n4_ := zg w hg; have n5_ := zg w hg; clear HO135; clear HO138; clear HB; have HO135 := n0_; have HO138 := n1_; have HB := n2_; have BK141 := n3_; have GW141 := n4_; have GE141 := n5_; clear n0_ n1_ n2_ n3_ n4_ n5_; clear hb hbox hg; have hcz19_0 := zc0 BK141; have hcz19_1 := zc1 BK141; have hcz19_2 := zc2 BK141; have hfz19_0 := zf BK141 0; have hfz19_1 := zf BK141 1; have hfz19_2 := zf BK141 2; obtain ⟨Ao20, co20, eo20⟩ := Kd.R_slice HO135.out; subst eo20; obtain ⟨Ao21, co21, eo21⟩ := Kd.R_slice HO138.out; subst eo21))
   go_ret; exact ⟨zE, zB⟩
 ·obtain rfl := Option.some.inj H
  go_enter Tryd.func4, Tryd.ntmps4
  go_wp2_with (first | ((with_reducible refine gate_callee (f := 13) rfl ?_); refine goesL_ (some 5) rfl rfl Tryd.func13 (by kernel_rfl) rfl #[.string (⟨#[66, 69, 71, 73, 78, 58, 65, 13, 10, 69, 78, 68, 58, 65, 13, 10]⟩ : ByteArray)] rfl zA ?_; (with_reducible refine (tree_Parse.calls (⟨#[66, 69, 71, 73, 78, 58, 65, 13, 10, 69, 78, 68, 58, 65, 13, 10]⟩ : ByteArray) t132 t133 t136 t139 t140 _ zG A1.out).mono ?_); rintro e w22 ⟨v134, v137, rfl, ho0, ho1, hb⟩; refine ⟨_, rfl, ?_⟩; replace HO135 := Aside0.mk (Kd.R_lower ho0 (below_size zB)); replace HO138 := Aside0.mk (Kd.R_lower ho1 (below_size zB)); replace HB := zw hb; (try clear hb); (try clear ho0); (try clear ho1)) | ((with_reducible refine gate_dst (N := 1) rfl ?_); refine zbox (N := 1) #[.string (⟨#[]⟩ : ByteArray), .slice none 0 0, .slice none 0 0] 32 (fun gb141 hg w23 hbox hb => ?_); have n0_ := Aside0.mk (Kd.R_below (Kd.R_below HO135.out zX) hb); have n1_ := Aside0.mk (Kd.R_below (Kd.R_elderB (Kd.R_below HO138.out zX) gb141 (Nat.le_of_eq hg.symm)) hb); have n2_ := zw hb; have n3_ := Aside0.mk hbox; have n4_ := zg w hg; have n5_ := zg w hg; clear HO135; clear HO138; clear HB; have HO135 := n0_; have HO138 := n1_; have HB := n2_; have BK141 := n3_; have GW141 := n4_; have GE141 := n5_; clear n0_ n1_ n2_ n3_ n4_ n5_; clear hb hbox hg; have hcz24_0 := zc0 BK141; have hcz24_1 := zc1 BK141; have hcz24_2 := zc2 BK141; have hfz24_0 := zf BK141 0; have hfz24_1 := zf BK141 1; have hfz24_2 := zf BK141 2; obtain ⟨Ao25, co25, eo25⟩ := Kd.R_slice HO135.out; subst eo25; obtain ⟨Ao26, co26, eo26⟩ := Kd.R_slice HO138.out; subst eo26))
  go_ret; exact ⟨zE, zB⟩
mutual
def trystlaw10_Few.l0 : Nat → Int → Int → Int → ByteArray → List (S62) → ByteArray → Option (Bool)
 | 0, _, _, _, _, _, _ => none
 | k + 1, x3, x15, x16, x144000, x144001, x144002 => if x16 < x15 then (if 0 ≤ x16 then (if x16 < (x144001.length : Int) then (trystlaw10_Few.l1 k (wrap64 ((wrap64 (x3 + (((rd_T62 x144001 x16).f0).size : Int))) + 1)) x16 x15 x16 (((rd_T62 x144001 x16).f1).length : Int) 0 x144000 x144001 x144002) else (none)) else (none)) else (some (decide (x3 ≤ 5000)))
def trystlaw10_Few.l1 : Nat → Int → Int → Int → Int → Int → Int → ByteArray → List (S62) → ByteArray → Option (Bool)
 | 0, _, _, _, _, _, _, _, _, _ => none
 | k + 1, x3, x4, x15, x16, x35, x36, x144000, x144001, x144002 => if x36 < x35 then (if 0 ≤ x4 then (if x4 < (x144001.length : Int) then (if 0 ≤ x36 then (if x36 < (((rd_T62 x144001 x4).f1).length : Int) then (trystlaw10_Few.l1 k (wrap64 ((wrap64 (x3 + ((rdOf ByteArray.empty ((rd_T62 x144001 x4).f1) x36).size : Int))) + 1)) x4 x15 x16 x35 (wrap64 (x36 + 1)) x144000 x144001 x144002) else (none)) else (none)) else (none)) else (none)) else (if x3 > 5000 then (some false) else (trystlaw10_Few.l0 k x3 x15 (wrap64 (x16 + 1)) x144000 x144001 x144002))
end
def trystlaw10_Few.f (k : Nat) (a0_0 : ByteArray) (l0_1 : List (S62)) (a0_2 : ByteArray) : Option (Bool) := trystlaw10_Few.l0 k (wrap64 ((a0_0.size : Int) + (a0_2.size : Int))) (l0_1.length : Int) 0 a0_0 l0_1 a0_2
set_option maxHeartbeats 8000000 in
set_option maxRecDepth 100000 in
theorem trystlaw10_Few.calls (k : Nat) (a0_0 : ByteArray) (A0_1 : Option Addr) (c0_1 : Nat) (l0_1 : List (S62)) (a0_2 : ByteArray) (r : Bool) (w : World) (hG : GG w) (hr0_1 : Kd.C k62 w A0_1 l0_1.length l0_1) (hc0_1 : l0_1.length ≤ c0_1) (h : trystlaw10_Few.f k a0_0 l0_1 a0_2 = some r) :
  Calls Tryd.prog 27 #[.agg #[.string a0_0, .slice A0_1 l0_1.length c0_1, .string a0_2]] w fun e w' => e = .returned (.bool r) ∧ Below w.heap.size w w' := by
 have hu42 := Tryd.underlying42; have HR0_1 := Aside0.mk hr0_1; have HC0_1 := Aside0.mk hc0_1; clear hr0_1 hc0_1; have HB := Aside0.mk (Below.refl w.heap.size w); have H : (trystlaw10_Few.l0 k (wrap64 ((a0_0.size : Int) + (a0_2.size : Int))) (l0_1.length : Int) 0 a0_0 l0_1 a0_2) = some r := h; clear h; have H' := Aside0.mk H; clear H
 go_enter Tryd.func27, Tryd.ntmps27
 go_wp2_with (first | ((with_reducible refine gate_dst (N := 1) rfl ?_); refine zbox (N := 1) #[.string a0_0, .slice A0_1 l0_1.length c0_1, .string a0_2] 42 (fun gb143 hg w2 hbox hb => ?_); have n0_ := zw hb; have n1_ := Aside0.mk hbox; have n2_ := zg w hg; have n3_ := zg w hg; clear HB; have HB := n0_; have BK143 := n1_; have GW143 := n2_; have GE143 := n3_; clear n0_ n1_ n2_ n3_; clear hb hbox hg; have hcz3_0 := zc0 BK143; have hcz3_1 := zc1 BK143; have hcz3_2 := zc2 BK143; have hfz3_0 := zf BK143 0; have hfz3_1 := zf BK143 1; have hfz3_2 := zf BK143 2))
 go_loopg [3, 16] k (fun kq v3 v16 w' => ∃ (x3_1 : Int) (x16_1 : Int), v3 = .int .i64 x3_1 ∧ v16 = .int .i64 x16_1 ∧ Aside0 (trystlaw10_Few.l0 kq x3_1 (l0_1.length : Int) x16_1 a0_0 l0_1 a0_2 = some r) ∧ Aside0 (kq ≤ k) ∧ Aside0 (w'.heap[gb143]? = some (.cells #[.string a0_0, (.slice A0_1 l0_1.length c0_1), .string a0_2] 42 (0, 0))) ∧ Aside0 (Below w.heap.size w w'))
 case atStart => exact ⟨(wrap64 ((a0_0.size : Int) + (a0_2.size : Int))), (0), zS, zS, H', ⟨Nat.le_refl _⟩, ⟨blk_below BK143.out zX⟩, ⟨zB⟩⟩
 case round =>
  clear H'; clear hcz3_0 hcz3_1 hcz3_2 hfz3_0 hfz3_1 hfz3_2; obtain ⟨x3_1, x16_1, rfl, rfl, HA, HK1, BK143, HB⟩ := hrel
  cases gk with
  | zero => exact absurd HA.out (by simp [trystlaw10_Few.l0])
  | succ k1 =>
   have H := HA.out; clear HA; simp only [trystlaw10_Few.l0] at H; replace H := zId H; rcases H with ⟨-, c4b0, H⟩ | ⟨-, c4b0, H⟩
   ·replace H := zJd H; obtain ⟨-, c5b0, H⟩ := H; replace H := zJd H; obtain ⟨-, c6b0, H⟩ := H; have H' := Aside0.mk H; clear H; have hcz7_0 := zc0 BK143; have hcz7_1 := zc1 BK143; have hcz7_2 := zc2 BK143; have hfz7_0 := zf BK143 0; have hfz7_1 := zf BK143 1; have hfz7_2 := zf BK143 2; have p144 := zQ (0 ≤ (x16_1 : Int)); have q144 := zQ (x16_1 < (l0_1.length : Int)); obtain ⟨ad144, A144_1, c144_1, e144, hx144_0, hx144_1, hl144_1, hi144_1⟩ := at_T62 HR0_1.out x16_1 p144 q144
    cases e144
    replace hx144_0 := zx HB hx144_0; replace hx144_1 := zx HB hx144_1; have HR144_1 := Aside0.mk hi144_1; have HC144_1 := Aside0.mk hl144_1; clear hi144_1 hl144_1; replace p144 := eq_true p144; replace q144 := eq_true q144; have p145 := zQ (0 ≤ (x16_1 : Int)); have q145 := zQ (x16_1 < (l0_1.length : Int)); obtain ⟨ad145, A145_1, c145_1, e145, hx145_0, hx145_1, hl145_1, hi145_1⟩ := at_T62 HR0_1.out x16_1 p145 q145; obtain rfl : ad144 = ad145 := (by injection e145); replace hx145_0 := zx HB hx145_0; replace hx145_1 := zx HB hx145_1; have HR145_1 := Aside0.mk hi145_1; have HC145_1 := Aside0.mk hl145_1; clear hi145_1 hl145_1; replace p145 := eq_true p145; replace q145 := eq_true q145
    have ea_ := Option.some.inj (hx144_1.symm.trans hx145_1)
    injection ea_ with ea_ en_ ec_
    subst ea_; subst ec_; clear en_; go_wp2
    go_loopg [3, 36] k1 (fun kq v3 v36 w' => ∃ (x3_2 : Int) (x36_2 : Int), v3 = .int .i64 x3_2 ∧ v36 = .int .i64 x36_2 ∧ Aside0 (trystlaw10_Few.l1 kq x3_2 x16_1 (l0_1.length : Int) x16_1 (((rd_T62 l0_1 x16_1).f1).length : Int) x36_2 a0_0 l0_1 a0_2 = some r) ∧ Aside0 (kq ≤ k1) ∧ Aside0 (w'.heap[gb143]? = some (.cells #[.string a0_0, (.slice (some ad144) l0_1.length c0_1), .string a0_2] 42 (0, 0))) ∧ Aside0 (Below w.heap.size w w'))
    case atStart => exact ⟨(wrap64 ((wrap64 (x3_1 + (((rd_T62 l0_1 x16_1).f0).size : Int))) + 1)), (0), zS, zS, H', ⟨Nat.le_refl _⟩, ⟨blk_below BK143.out zX⟩, ⟨zB⟩⟩
    case round =>
     clear H'; clear c4b0 c5b0 c6b0 hcz7_0 hcz7_1 hcz7_2 hfz7_0 hfz7_1 hfz7_2 hx144_0 hx144_1 hx145_0 hx145_1 p144 p145 q144 q145; obtain ⟨x3_2, x36_2, rfl, rfl, HA, HK2, BK143, HB⟩ := hrel
     cases gk with
     | zero => exact absurd HA.out (by simp [trystlaw10_Few.l1])
     | succ k2 =>
      have H := HA.out; clear HA; simp only [trystlaw10_Few.l1] at H; replace H := zId H; rcases H with ⟨-, c8b0, H⟩ | ⟨-, c8b0, H⟩
      ·replace H := zJd H; obtain ⟨-, c9b0, H⟩ := H; replace H := zJd H; obtain ⟨-, c10b0, H⟩ := H; replace H := zJd H; obtain ⟨-, c11b0, H⟩ := H; replace H := zJd H; obtain ⟨-, c12b0, H⟩ := H; have H' := Aside0.mk H; clear H; have hcz13_0 := zc0 BK143; have hcz13_1 := zc1 BK143; have hcz13_2 := zc2 BK143; have hfz13_0 := zf BK143 0; have hfz13_1 := zf BK143 1; have hfz13_2 := zf BK143 2; have p146 := zQ (0 ≤ (x16_1 : Int)); have q146 := zQ (x16_1 < (l0_1.length : Int)); obtain ⟨ad146, A146_1, c146_1, e146, hx146_0, hx146_1, hl146_1, hi146_1⟩ := at_T62 HR0_1.out x16_1 p146 q146
       obtain rfl : ad144 = ad146 := (by injection e146); replace hx146_0 := zx HB hx146_0; replace hx146_1 := zx HB hx146_1; have HR146_1 := Aside0.mk hi146_1; have HC146_1 := Aside0.mk hl146_1; clear hi146_1 hl146_1; replace p146 := eq_true p146; replace q146 := eq_true q146; have p147 := zQ (0 ≤ (x36_2 : Int)); have q147 := zQ (x36_2 < (((rd_T62 l0_1 x16_1).f1).length : Int)); obtain ⟨ad147, e147, hx147_0⟩ := Kd.at_string HR146_1.out x36_2 p147 q147
       cases e147
       replace hx147_0 := zx HB hx147_0; replace p147 := eq_true p147; replace q147 := eq_true q147; go_wp2
       go_roundg k2
       case measure => have := HK1.out; have := HK2.out; omega
       case rel => exact ⟨(wrap64 ((wrap64 (x3_2 + ((rdOf ByteArray.empty ((rd_T62 l0_1 x16_1).f1) x36_2).size : Int))) + 1)), (wrap64 (x36_2 + 1)), zS, zS, H', ⟨by have := HK1.out; have := HK2.out; omega⟩, ⟨blk_below BK143.out zX⟩, ⟨zB⟩⟩
      ·replace H := zI H; rcases H with ⟨c14, H⟩ | ⟨c14, H⟩
       ·have c14b0 : decide (5000 < x3_2) = true := decide_eq_true c14; clear c14; obtain rfl := Option.some.inj H; go_wp2; go_ret; exact ⟨zE, zB⟩
       ·have c14b0 : decide (5000 < x3_2) = false := decide_eq_false c14; clear c14; have H' := Aside0.mk H; clear H; go_wp2
        go_roundg k2
        case measure => have := HK1.out; have := HK2.out; omega
        case rel => exact ⟨(x3_2), (wrap64 (x16_1 + 1)), zS, zS, H', ⟨by have := HK1.out; have := HK2.out; omega⟩, ⟨blk_below BK143.out zX⟩, ⟨zB⟩⟩
   ·obtain rfl := Option.some.inj H; go_wp2; go_ret; exact ⟨zE, zB⟩
mutual
def trystlaw11_size.l0 : Nat → Int → Int → Int → Int → ByteArray → List (S42) → List (S25) → Option (Int)
 | 0, _, _, _, _, _, _, _ => none
 | k + 1, x1, x5, x14, x15, x149000, x149001, x149002 => if x15 < x14 then (if 0 ≤ x15 then (if x15 < (x149001.length : Int) then ((trystlaw10_Few.f k ((rd_T42 x149001 x15).f0) ((rd_T42 x149001 x15).f1) ((rd_T42 x149001 x15).f2)).bind fun t150 => (if t150 = true then (trystlaw11_size.l0 k x1 (wrap64 ((wrap64 ((wrap64 (x5 + 1)) + (((rd_T42 x149001 x15).f0).size : Int))) + (((rd_T42 x149001 x15).f2).size : Int))) x14 (wrap64 (x15 + 1)) x149000 x149001 x149002) else (some 1048576))) else (none)) else (none)) else (trystlaw11_size.l1 k x1 x5 (x149002.length : Int) 0 x149000 x149001 x149002)
def trystlaw11_size.l1 : Nat → Int → Int → Int → Int → ByteArray → List (S42) → List (S25) → Option (Int)
 | 0, _, _, _, _, _, _, _ => none
 | k + 1, x1, x5, x46, x47, x149000, x149001, x149002 => if x47 < x46 then (if x1 > 10 then (some 1048576) else (if x5 > 50000 then (some 1048576) else (if 0 ≤ x47 then (if x47 < (x149002.length : Int) then ((trystlaw11_size.f k ((rd_T25 x149002 x47).f0) ((rd_T25 x149002 x47).f1) ((rd_T25 x149002 x47).f2) (wrap64 (x1 + 1))).bind fun t154 => (trystlaw11_size.l1 k x1 (wrap64 (x5 + t154)) x46 (wrap64 (x47 + 1)) x149000 x149001 x149002)) else (none)) else (none)))) else (some x5)
def trystlaw11_size.f : Nat → ByteArray → List (S42) → List (S25) → Int → Option (Int)
 | 0, _, _, _, _ => none
 | k + 1, a0_0, l0_1, l0_2, a1 => trystlaw11_size.l0 k a1 (wrap64 (1 + (a0_0.size : Int))) (l0_1.length : Int) 0 a0_0 l0_1 l0_2
end
set_option maxHeartbeats 8000000 in
set_option maxRecDepth 100000 in
theorem trystlaw11_size.calls (k : Nat) : ∀ (a0_0 : ByteArray) (A0_1 : Option Addr) (c0_1 : Nat) (l0_1 : List (S42)) (A0_2 : Option Addr) (c0_2 : Nat) (l0_2 : List (S25)) (a1 : Int) (r : Int) (w : World) (hG : GG w) (hr0_1 : Kd.C k42 w A0_1 l0_1.length l0_1) (hc0_1 : l0_1.length ≤ c0_1) (hr0_2 : Kd.C k25 w A0_2 l0_2.length l0_2) (hc0_2 : l0_2.length ≤ c0_2) (h : trystlaw11_size.f k a0_0 l0_1 l0_2 a1 = some r),
  Calls Tryd.prog 15 #[.agg #[.string a0_0, .slice A0_1 l0_1.length c0_1, .slice A0_2 l0_2.length c0_2], .int .i64 a1] w fun e w' => e = .returned (.int .i64 r) ∧ Below w.heap.size w w' := by
 induction k using Nat.strongRecOn with
 | _ k ih =>
 intro a0_0 A0_1 c0_1 l0_1 A0_2 c0_2 l0_2 a1 r w hG hr0_1 hc0_1 hr0_2 hc0_2 h
 cases k with
 | zero => exact absurd h (by simp [trystlaw11_size.f])
 | succ k =>
 simp only [trystlaw11_size.f] at h; have hu25 := Tryd.underlying25; have hu42 := Tryd.underlying42; have HR0_1 := Aside0.mk hr0_1; have HC0_1 := Aside0.mk hc0_1; clear hr0_1 hc0_1; have HR0_2 := Aside0.mk hr0_2; have HC0_2 := Aside0.mk hc0_2; clear hr0_2 hc0_2; have HB := Aside0.mk (Below.refl w.heap.size w); have H : (trystlaw11_size.l0 k a1 (wrap64 (1 + (a0_0.size : Int))) (l0_1.length : Int) 0 a0_0 l0_1 l0_2) = some r := h; clear h; have H' := Aside0.mk H; clear H
 go_enter Tryd.func15, Tryd.ntmps15
 go_wp2_with (first | ((with_reducible refine gate_dst (N := 2) rfl ?_); refine zbox (N := 2) #[.string a0_0, .slice A0_1 l0_1.length c0_1, .slice A0_2 l0_2.length c0_2] 25 (fun gb148 hg w3 hbox hb => ?_); have n0_ := zw hb; have n1_ := Aside0.mk hbox; have n2_ := zg w hg; have n3_ := zg w hg; clear HB; have HB := n0_; have BK148 := n1_; have GW148 := n2_; have GE148 := n3_; clear n0_ n1_ n2_ n3_; clear hb hbox hg; have hcz4_0 := zc0 BK148; have hcz4_1 := zc1 BK148; have hcz4_2 := zc2 BK148; have hfz4_0 := zf BK148 0; have hfz4_1 := zf BK148 1; have hfz4_2 := zf BK148 2))
 repeat (go_quiet (first | ((with_reducible refine gate_dst (N := 2) rfl ?_); refine zbox (N := 2) #[.string a0_0, .slice A0_1 l0_1.length c0_1, .slice A0_2 l0_2.length c0_2] 25 (fun gb148 hg w3 hbox hb => ?_); have n0_ := zw hb; have n1_ := Aside0.mk hbox; have n2_ := zg w hg; have n3_ := zg w hg; clear HB; have HB := n0_; have BK148 := n1_; have GW148 := n2_; have GE148 := n3_; clear n0_ n1_ n2_ n3_; clear hb hbox hg; have hcz4_0 := zc0 BK148; have hcz4_1 := zc1 BK148; have hcz4_2 := zc2 BK148; have hfz4_0 := zf BK148 0; have hfz4_1 := zf BK148 1; have hfz4_2 := zf BK148 2)); try go_wp2_with (first | ((with_reducible refine gate_dst (N := 2) rfl ?_); refine zbox (N := 2) #[.string a0_0, .slice A0_1 l0_1.length c0_1, .slice A0_2 l0_2.length c0_2] 25 (fun gb148 hg w3 hbox hb => ?_); have n0_ := zw hb; have n1_ := Aside0.mk hbox; have n2_ := zg w hg; have n3_ := zg w hg; clear HB; have HB := n0_; have BK148 := n1_; have GW148 := n2_; have GE148 := n3_; clear n0_ n1_ n2_ n3_; clear hb hbox hg; have hcz4_0 := zc0 BK148; have hcz4_1 := zc1 BK148; have hcz4_2 := zc2 BK148; have hfz4_0 := zf BK148 0; have hfz4_1 := zf BK148 1; have hfz4_2 := zf BK148 2)))
 go_loopg [5, 15] k (fun kq v5 v15 w' => ∃ (x5_1 : Int) (x15_1 : Int), v5 = .int .i64 x5_1 ∧ v15 = .int .i64 x15_1 ∧ Aside0 (trystlaw11_size.l0 kq a1 x5_1 (l0_1.length : Int) x15_1 a0_0 l0_1 l0_2 = some r) ∧ Aside0 (kq ≤ k) ∧ Aside0 (w'.heap[gb148]? = some (.cells #[.string a0_0, (.slice A0_1 l0_1.length c0_1), (.slice A0_2 l0_2.length c0_2)] 25 (0, 0))) ∧ Aside0 (Below w.heap.size w w'))
 case atStart => exact ⟨(wrap64 (1 + (a0_0.size : Int))), (0), zS, zS, H', ⟨Nat.le_refl _⟩, ⟨blk_below BK148.out zX⟩, ⟨zB⟩⟩
 case round =>
  clear H'; clear hcz4_0 hcz4_1 hcz4_2 hfz4_0 hfz4_1 hfz4_2; obtain ⟨x5_1, x15_1, rfl, rfl, HA, HK1, BK148, HB⟩ := hrel
  cases gk with
  | zero => exact absurd HA.out (by simp [trystlaw11_size.l0])
  | succ k1 =>
   have H := HA.out; clear HA; simp only [trystlaw11_size.l0] at H; replace H := zId H; rcases H with ⟨-, c5b0, H⟩ | ⟨-, c5b0, H⟩
   ·replace H := zJd H; obtain ⟨-, c6b0, H⟩ := H; replace H := zJd H; obtain ⟨-, c7b0, H⟩ := H; replace H := Option.bind_eq_some_iff.mp H; obtain ⟨t150, A80, H⟩ := H; replace H : (if t150 = true then (trystlaw11_size.l0 k1 a1 (wrap64 ((wrap64 ((wrap64 (x5_1 + 1)) + (((rd_T42 l0_1 x15_1).f0).size : Int))) + (((rd_T42 l0_1 x15_1).f2).size : Int))) (l0_1.length : Int) (wrap64 (x15_1 + 1)) a0_0 l0_1 l0_2) else (some 1048576)) = some r := H; have A8 := Aside0.mk A80; clear A80; replace H := zIb H; rcases H with ⟨rfl, H⟩ | ⟨rfl, H⟩
    ·have H' := Aside0.mk H; clear H; have hcz10_0 := zc0 BK148; have hcz10_1 := zc1 BK148; have hcz10_2 := zc2 BK148; have hfz10_0 := zf BK148 0; have hfz10_1 := zf BK148 1; have hfz10_2 := zf BK148 2; have p149 := zQ (0 ≤ (x15_1 : Int)); have q149 := zQ (x15_1 < (l0_1.length : Int)); obtain ⟨ad149, A149_1, c149_1, e149, hx149_0, hx149_1, hx149_2, hl149_1, hi149_1⟩ := at_T42 HR0_1.out x15_1 p149 q149
     cases e149
     replace hx149_0 := zx HB hx149_0; replace hx149_1 := zx HB hx149_1; replace hx149_2 := zx HB hx149_2; have HR149_1 := Aside0.mk hi149_1; have HC149_1 := Aside0.mk hl149_1; clear hi149_1 hl149_1; replace p149 := eq_true p149; replace q149 := eq_true q149
     go_wp2_with (first | (go_at_call 27; (with_reducible refine (trystlaw10_Few.calls k1 ((rd_T42 l0_1 x15_1).f0) _ _ ((rd_T42 l0_1 x15_1).f1) ((rd_T42 l0_1 x15_1).f2) true _ zG ?side1 ?side2 A8.out).mono ?_); (case side1 => exact Kd.C_below (Kd.C_below HR149_1.out HB.out) zX); (case side2 => exact HC149_1.out); rintro e w11 ⟨rfl, hb⟩; replace BK148 := zb BK148 hb; replace HB := zw hb; (try clear hb); have hcz12_0 := zc0 BK148; have hcz12_1 := zc1 BK148; have hcz12_2 := zc2 BK148; have hfz12_0 := zf BK148 0; have hfz12_1 := zf BK148 1; have hfz12_2 := zf BK148 2; have p151 : 0 ≤ (x15_1 : Int) := of_decide_eq_true (by first | (with_reducible assumption) | assumption); have q151 : x15_1 < (l0_1.length : Int) := of_decide_eq_true (by first | (with_reducible assumption) | assumption); obtain ⟨ad151, A151_1, c151_1, e151, hx151_0, hx151_1, hx151_2, hl151_1, hi151_1⟩ := at_T42 HR0_1.out x15_1 p151 q151; obtain rfl : ad149 = ad151 := (by injection e151); replace hx151_0 := zx HB hx151_0; replace hx151_1 := zx HB hx151_1; replace hx151_2 := zx HB hx151_2; have HR151_1 := Aside0.mk hi151_1; have HC151_1 := Aside0.mk hl151_1; clear hi151_1 hl151_1; replace p151 := eq_true p151; replace q151 := eq_true q151; have p152 : 0 ≤ (x15_1 : Int) := of_decide_eq_true (by first | (with_reducible assumption) | assumption); have q152 : x15_1 < (l0_1.length : Int) := of_decide_eq_true (by first | (with_reducible assumption) | assumption); obtain ⟨ad152, A152_1, c152_1, e152, hx152_0, hx152_1, hx152_2, hl152_1, hi152_1⟩ := at_T42 HR0_1.out x15_1 p152 q152; obtain rfl : ad149 = ad152 := (by injection e152); replace hx152_0 := zx HB hx152_0; replace hx152_1 := zx HB hx152_1; replace hx152_2 := zx HB hx152_2; have HR152_1 := Aside0.mk hi152_1; have HC152_1 := Aside0.mk hl152_1; clear hi152_1 hl152_1; replace p152 := eq_true p152; replace q152 := eq_true q152; have ea_ := Option.some.inj (hx151_1.symm.trans hx152_1); injection ea_ with ea_ en_ ec_; subst ea_; subst ec_; clear en_))
     repeat (go_quiet (first | (go_at_call 27; (with_reducible refine (trystlaw10_Few.calls k1 ((rd_T42 l0_1 x15_1).f0) _ _ ((rd_T42 l0_1 x15_1).f1) ((rd_T42 l0_1 x15_1).f2) true _ zG ?side1 ?side2 A8.out).mono ?_); (case side1 => exact Kd.C_below (Kd.C_below HR149_1.out HB.out) zX); (case side2 => exact HC149_1.out); rintro e w11 ⟨rfl, hb⟩; replace BK148 := zb BK148 hb; replace HB := zw hb; (try clear hb); have hcz12_0 := zc0 BK148; have hcz12_1 := zc1 BK148; have hcz12_2 := zc2 BK148; have hfz12_0 := zf BK148 0; have hfz12_1 := zf BK148 1; have hfz12_2 := zf BK148 2; have p151 : 0 ≤ (x15_1 : Int) := of_decide_eq_true (by first | (with_reducible assumption) | assumption); have q151 : x15_1 < (l0_1.length : Int) := of_decide_eq_true (by first | (with_reducible assumption) | assumption); obtain ⟨ad151, A151_1, c151_1, e151, hx151_0, hx151_1, hx151_2, hl151_1, hi151_1⟩ := at_T42 HR0_1.out x15_1 p151 q151; obtain rfl : ad149 = ad151 := (by injection e151); replace hx151_0 := zx HB hx151_0; replace hx151_1 := zx HB hx151_1; replace hx151_2 := zx HB hx151_2; have HR151_1 := Aside0.mk hi151_1; have HC151_1 := Aside0.mk hl151_1; clear hi151_1 hl151_1; replace p151 := eq_true p151; replace q151 := eq_true q151; have p152 : 0 ≤ (x15_1 : Int) := of_decide_eq_true (by first | (with_reducible assumption) | assumption); have q152 : x15_1 < (l0_1.length : Int) := of_decide_eq_true (by first | (with_reducible assumption) | assumption); obtain ⟨ad152, A152_1, c152_1, e152, hx152_0, hx152_1, hx152_2, hl152_1, hi152_1⟩ := at_T42 HR0_1.out x15_1 p152 q152; obtain rfl : ad149 = ad152 := (by injection e152); replace hx152_0 := zx HB hx152_0; replace hx152_1 := zx HB hx152_1; replace hx152_2 := zx HB hx152_2; have HR152_1 := Aside0.mk hi152_1; have HC152_1 := Aside0.mk hl152_1; clear hi152_1 hl152_1; replace p152 := eq_true p152; replace q152 := eq_true q152; have ea_ := Option.some.inj (hx151_1.symm.trans hx152_1); injection ea_ with ea_ en_ ec_; subst ea_; subst ec_; clear en_)); try go_wp2_with (first | (go_at_call 27; (with_reducible refine (trystlaw10_Few.calls k1 ((rd_T42 l0_1 x15_1).f0) _ _ ((rd_T42 l0_1 x15_1).f1) ((rd_T42 l0_1 x15_1).f2) true _ zG ?side1 ?side2 A8.out).mono ?_); (case side1 => exact Kd.C_below (Kd.C_below HR149_1.out HB.out) zX); (case side2 => exact HC149_1.out); rintro e w11 ⟨rfl, hb⟩; replace BK148 := zb BK148 hb; replace HB := zw hb; (try clear hb); have hcz12_0 := zc0 BK148; have hcz12_1 := zc1 BK148; have hcz12_2 := zc2 BK148; have hfz12_0 := zf BK148 0; have hfz12_1 := zf BK148 1; have hfz12_2 := zf BK148 2; have p151 : 0 ≤ (x15_1 : Int) := of_decide_eq_true (by first | (with_reducible assumption) | assumption); have q151 : x15_1 < (l0_1.length : Int) := of_decide_eq_true (by first | (with_reducible assumption) | assumption); obtain ⟨ad151, A151_1, c151_1, e151, hx151_0, hx151_1, hx151_2, hl151_1, hi151_1⟩ := at_T42 HR0_1.out x15_1 p151 q151; obtain rfl : ad149 = ad151 := (by injection e151); replace hx151_0 := zx HB hx151_0; replace hx151_1 := zx HB hx151_1; replace hx151_2 := zx HB hx151_2; have HR151_1 := Aside0.mk hi151_1; have HC151_1 := Aside0.mk hl151_1; clear hi151_1 hl151_1; replace p151 := eq_true p151; replace q151 := eq_true q151; have p152 : 0 ≤ (x15_1 : Int) := of_decide_eq_true (by first | (with_reducible assumption) | assumption); have q152 : x15_1 < (l0_1.length : Int) := of_decide_eq_true (by first | (with_reducible assumption) | assumption); obtain ⟨ad152, A152_1, c152_1, e152, hx152_0, hx152_1, hx152_2, hl152_1, hi152_1⟩ := at_T42 HR0_1.out x15_1 p152 q152; obtain rfl : ad149 = ad152 := (by injection e152); replace hx152_0 := zx HB hx152_0; replace hx152_1 := zx HB hx152_1; replace hx152_2 := zx HB hx152_2; have HR152_1 := Aside0.mk hi152_1; have HC152_1 := Aside0.mk hl152_1; clear hi152_1 hl152_1; replace p152 := eq_true p152; replace q152 := eq_true q152; have ea_ := Option.some.inj (hx151_1.symm.trans hx152_1); injection ea_ with ea_ en_ ec_; subst ea_; subst ec_; clear en_)))
     go_roundg k1
     case measure => have := HK1.out; omega
     case rel => exact ⟨(wrap64 ((wrap64 ((wrap64 (x5_1 + 1)) + (((rd_T42 l0_1 x15_1).f0).size : Int))) + (((rd_T42 l0_1 x15_1).f2).size : Int))), (wrap64 (x15_1 + 1)), zS, zS, H', ⟨by have := HK1.out; omega⟩, ⟨blk_below BK148.out zX⟩, ⟨zB⟩⟩
    ·obtain rfl := Option.some.inj H; have hcz13_0 := zc0 BK148; have hcz13_1 := zc1 BK148; have hcz13_2 := zc2 BK148; have hfz13_0 := zf BK148 0; have hfz13_1 := zf BK148 1; have hfz13_2 := zf BK148 2; have p149 := zQ (0 ≤ (x15_1 : Int)); have q149 := zQ (x15_1 < (l0_1.length : Int)); obtain ⟨ad149, A149_1, c149_1, e149, hx149_0, hx149_1, hx149_2, hl149_1, hi149_1⟩ := at_T42 HR0_1.out x15_1 p149 q149
     cases e149
     replace hx149_0 := zx HB hx149_0; replace hx149_1 := zx HB hx149_1; replace hx149_2 := zx HB hx149_2; have HR149_1 := Aside0.mk hi149_1; have HC149_1 := Aside0.mk hl149_1; clear hi149_1 hl149_1; replace p149 := eq_true p149; replace q149 := eq_true q149
     go_wp2_with (first | (go_at_call 27; (with_reducible refine (trystlaw10_Few.calls k1 ((rd_T42 l0_1 x15_1).f0) _ _ ((rd_T42 l0_1 x15_1).f1) ((rd_T42 l0_1 x15_1).f2) false _ zG ?side1 ?side2 A8.out).mono ?_); (case side1 => exact Kd.C_below (Kd.C_below HR149_1.out HB.out) zX); (case side2 => exact HC149_1.out); rintro e w14 ⟨rfl, hb⟩; replace BK148 := zb BK148 hb; replace HB := zw hb; (try clear hb)))
     repeat (go_quiet (first | (go_at_call 27; (with_reducible refine (trystlaw10_Few.calls k1 ((rd_T42 l0_1 x15_1).f0) _ _ ((rd_T42 l0_1 x15_1).f1) ((rd_T42 l0_1 x15_1).f2) false _ zG ?side1 ?side2 A8.out).mono ?_); (case side1 => exact Kd.C_below (Kd.C_below HR149_1.out HB.out) zX); (case side2 => exact HC149_1.out); rintro e w14 ⟨rfl, hb⟩; replace BK148 := zb BK148 hb; replace HB := zw hb; (try clear hb))); try go_wp2_with (first | (go_at_call 27; (with_reducible refine (trystlaw10_Few.calls k1 ((rd_T42 l0_1 x15_1).f0) _ _ ((rd_T42 l0_1 x15_1).f1) ((rd_T42 l0_1 x15_1).f2) false _ zG ?side1 ?side2 A8.out).mono ?_); (case side1 => exact Kd.C_below (Kd.C_below HR149_1.out HB.out) zX); (case side2 => exact HC149_1.out); rintro e w14 ⟨rfl, hb⟩; replace BK148 := zb BK148 hb; replace HB := zw hb; (try clear hb))))
     go_ret; exact ⟨zE, zB⟩
   ·have H' := Aside0.mk H; clear H; have hcz15_0 := zc0 BK148; have hcz15_1 := zc1 BK148; have hcz15_2 := zc2 BK148; have hfz15_0 := zf BK148 0; have hfz15_1 := zf BK148 1; have hfz15_2 := zf BK148 2; go_wp2
    repeat (go_quiet (fail); try go_wp2)
    go_loopg [5, 47] k1 (fun kq v5 v47 w' => ∃ (x5_2 : Int) (x47_2 : Int), v5 = .int .i64 x5_2 ∧ v47 = .int .i64 x47_2 ∧ Aside0 (trystlaw11_size.l1 kq a1 x5_2 (l0_2.length : Int) x47_2 a0_0 l0_1 l0_2 = some r) ∧ Aside0 (kq ≤ k1) ∧ Aside0 (w'.heap[gb148]? = some (.cells #[.string a0_0, (.slice A0_1 l0_1.length c0_1), (.slice A0_2 l0_2.length c0_2)] 25 (0, 0))) ∧ Aside0 (Below w.heap.size w w'))
    case atStart => exact ⟨(x5_1), (0), zS, zS, H', ⟨Nat.le_refl _⟩, ⟨blk_below BK148.out zX⟩, ⟨zB⟩⟩
    case round =>
     clear H'; clear c5b0 hcz15_0 hcz15_1 hcz15_2 hfz15_0 hfz15_1 hfz15_2; obtain ⟨x5_2, x47_2, rfl, rfl, HA, HK2, BK148, HB⟩ := hrel
     cases gk with
     | zero => exact absurd HA.out (by simp [trystlaw11_size.l1])
     | succ k2 =>
      have H := HA.out; clear HA; simp only [trystlaw11_size.l1] at H; replace H := zId H; rcases H with ⟨-, c16b0, H⟩ | ⟨-, c16b0, H⟩
      ·replace H := zI H; rcases H with ⟨c17, H⟩ | ⟨c17, H⟩
       ·have c17b0 : decide (10 < a1) = true := decide_eq_true c17; clear c17; obtain rfl := Option.some.inj H; go_wp2
        repeat (go_quiet (fail); try go_wp2)
        go_ret; exact ⟨zE, zB⟩
       ·have c17b0 : decide (10 < a1) = false := decide_eq_false c17; clear c17; replace H := zI H; rcases H with ⟨c18, H⟩ | ⟨c18, H⟩
        ·have c18b0 : decide (50000 < x5_2) = true := decide_eq_true c18; clear c18; obtain rfl := Option.some.inj H; go_wp2
         repeat (go_quiet (fail); try go_wp2)
         go_ret; exact ⟨zE, zB⟩
        ·have c18b0 : decide (50000 < x5_2) = false := decide_eq_false c18; clear c18; replace H := zJd H; obtain ⟨-, c19b0, H⟩ := H; replace H := zJd H; obtain ⟨-, c20b0, H⟩ := H; replace H := Option.bind_eq_some_iff.mp H; obtain ⟨t154, A210, H⟩ := H; replace H : (trystlaw11_size.l1 k2 a1 (wrap64 (x5_2 + t154)) (l0_2.length : Int) (wrap64 (x47_2 + 1)) a0_0 l0_1 l0_2) = some r := H; have A21 := Aside0.mk A210; clear A210; have H' := Aside0.mk H; clear H; have hcz22_0 := zc0 BK148; have hcz22_1 := zc1 BK148; have hcz22_2 := zc2 BK148; have hfz22_0 := zf BK148 0; have hfz22_1 := zf BK148 1
         have hfz22_2 := zf BK148 2; have p153 := zQ (0 ≤ (x47_2 : Int)); have q153 := zQ (x47_2 < (l0_2.length : Int)); obtain ⟨ad153, A153_1, c153_1, A153_2, c153_2, e153, hx153_0, hx153_1, hx153_2, hl153_1, hi153_1, hl153_2, hi153_2⟩ := at_T25 HR0_2.out x47_2 p153 q153
         cases e153
         replace hx153_0 := zx HB hx153_0; replace hx153_1 := zx HB hx153_1; replace hx153_2 := zx HB hx153_2; have HR153_1 := Aside0.mk hi153_1; have HC153_1 := Aside0.mk hl153_1; clear hi153_1 hl153_1; have HR153_2 := Aside0.mk hi153_2; have HC153_2 := Aside0.mk hl153_2; clear hi153_2 hl153_2; replace p153 := eq_true p153; replace q153 := eq_true q153
         go_wp2_with (first | (go_at_call 15; (with_reducible refine (ih k2 (by have := HK1.out; have := HK2.out; omega) ((rd_T25 l0_2 x47_2).f0) _ _ ((rd_T25 l0_2 x47_2).f1) _ _ ((rd_T25 l0_2 x47_2).f2) (wrap64 (a1 + 1)) t154 _ zG ?side1 ?side2 ?side3 ?side4 A21.out).mono ?_); (case side1 => exact Kd.C_below (Kd.C_below HR153_1.out HB.out) zX); (case side2 => exact HC153_1.out); (case side3 => exact Kd.C_below (Kd.C_below HR153_2.out HB.out) zX); (case side4 => exact HC153_2.out); rintro e w23 ⟨rfl, hb⟩; replace BK148 := zb BK148 hb; replace HB := zw hb; (try clear hb)))
         repeat (go_quiet (first | (go_at_call 15; (with_reducible refine (ih k2 (by have := HK1.out; have := HK2.out; omega) ((rd_T25 l0_2 x47_2).f0) _ _ ((rd_T25 l0_2 x47_2).f1) _ _ ((rd_T25 l0_2 x47_2).f2) (wrap64 (a1 + 1)) t154 _ zG ?side1 ?side2 ?side3 ?side4 A21.out).mono ?_); (case side1 => exact Kd.C_below (Kd.C_below HR153_1.out HB.out) zX); (case side2 => exact HC153_1.out); (case side3 => exact Kd.C_below (Kd.C_below HR153_2.out HB.out) zX); (case side4 => exact HC153_2.out); rintro e w23 ⟨rfl, hb⟩; replace BK148 := zb BK148 hb; replace HB := zw hb; (try clear hb))); try go_wp2_with (first | (go_at_call 15; (with_reducible refine (ih k2 (by have := HK1.out; have := HK2.out; omega) ((rd_T25 l0_2 x47_2).f0) _ _ ((rd_T25 l0_2 x47_2).f1) _ _ ((rd_T25 l0_2 x47_2).f2) (wrap64 (a1 + 1)) t154 _ zG ?side1 ?side2 ?side3 ?side4 A21.out).mono ?_); (case side1 => exact Kd.C_below (Kd.C_below HR153_1.out HB.out) zX); (case side2 => exact HC153_1.out); (case side3 => exact Kd.C_below (Kd.C_below HR153_2.out HB.out) zX); (case side4 => exact HC153_2.out); rintro e w23 ⟨rfl, hb⟩; replace BK148 := zb BK148 hb; replace HB := zw hb; (try clear hb))))
         go_roundg k2
         case measure => have := HK1.out; have := HK2.out; omega
         case rel => exact ⟨(wrap64 (x5_2 + t154)), (wrap64 (x47_2 + 1)), zS, zS, H', ⟨by have := HK1.out; have := HK2.out; omega⟩, ⟨blk_below BK148.out zX⟩, ⟨zB⟩⟩
      ·obtain rfl := Option.some.inj H; go_wp2
       repeat (go_quiet (fail); try go_wp2)
       go_ret; exact ⟨zE, zB⟩
end Go.Proofs.YtdojmdbaiddkgaaDoor.Print
end
section
namespace Go.Proofs.YtdojmdbaiddkgaaDoor.Print
open Go.RowKit Go.Proofs.YtdojmdbaiddkgaaDoorW.PrintWords Go.Proofs.YtdojmdbaiddkgaaDoorW.PrintLast Go.Proofs.YtdojmdbaiddkgaaDoorW.PrintMore
set_option linter.unusedVariables false
set_option linter.unusedSimpArgs false
def trystlaw10_Theirs.l0 : Nat → Int → Int → ByteArray → List (S62) → ByteArray → ByteArray → List (S59) → ByteArray → Option (ByteArray × (List (S59)) × ByteArray)
 | 0, _, _, _, _, _, _, _, _ => none
 | k + 1, x12, x13, x158000, x158001, x158002, x160000, x160001, x160002 => if x13 < x12 then (if 0 ≤ x13 then (if x13 < (x158001.length : Int) then ((some (([] : List ByteArray) : List ByteArray)).bind fun y161 => (if y161.length + ((rd_T62 x158001 x13).f1).length < 8796093022208 then (if x160001.length < 3518437208883 then (trystlaw10_Theirs.l0 k x12 (wrap64 (x13 + 1)) x158000 x158001 x158002 x160000 (x160001 ++ [(⟨(rd_T62 x158001 x13).f0, (y161 ++ ((rd_T62 x158001 x13).f1))⟩ : S59)]) x160002) else (none)) else (none))) else (none)) else (none)) else (some (x160000, x160001, x160002))
def trystlaw10_Theirs.f (k : Nat) (a0_0 : ByteArray) (l0_1 : List (S62)) (a0_2 : ByteArray) : Option (ByteArray × (List (S59)) × ByteArray) := trystlaw10_Theirs.l0 k (l0_1.length : Int) 0 a0_0 l0_1 a0_2 a0_0 ([] : List (S59)) a0_2
def trystlaw10_Theirs.T5 : Bool × List (List Nat × List Nat) := (true, [([], []), ([0], [0]), ([], []), ([2], [2]), ([], []), ([3, 4], [3, 4]), ([5], [5]), ([6], [6]), ([], []), ([], []), ([9], [9]), ([], []), ([10, 11], [10, 11]), ([12], [12]), ([13], [13]), ([8, 14], [8, 14]), ([7, 15], [7, 15]), ([16], [16]), ([1, 17, 15], [1, 17]), ([0, 1, 2, 3, 4, 5, 6, 7, 8, 9, 10, 11, 12, 13, 14, 15, 16, 17, 18], []), ([19, 18, 18, 0, 1, 2, 3, 4, 5, 6, 7, 8, 9, 10, 11, 12, 13, 14, 15, 16, 17, 18], [18, 19])])
def trystlaw10_Theirs.B5 : List Nat := [0, 1, 0, 4, 0, 28, 60, 124, 0, 0, 512, 0, 3584, 7680, 15872, 32512, 65532, 131068, 262143, 524287, 1048575]
theorem trystlaw10_Theirs.tab5 : rtab .any (opsOf Tryd.f18 5) = trystlaw10_Theirs.T5 := by kernel_rfl
theorem trystlaw10_Theirs.bits5 : waitsOk trystlaw10_Theirs.T5.2 trystlaw10_Theirs.B5 = true := by kernel_rfl
set_option maxHeartbeats 8000000 in
set_option maxRecDepth 100000 in
theorem trystlaw10_Theirs.calls (k : Nat) (a0_0 : ByteArray) (A0_1 : Option Addr) (c0_1 : Nat) (l0_1 : List (S62)) (a0_2 : ByteArray) (r1 : ByteArray) (r2 : List (S59)) (r3 : ByteArray) (w : World) (hG : GG w) (hr0_1 : Kd.C k62 w A0_1 l0_1.length l0_1) (hc0_1 : l0_1.length ≤ c0_1) (h : trystlaw10_Theirs.f k a0_0 l0_1 a0_2 = some (r1, r2, r3)) :
  Calls Tryd.prog 18 #[.agg #[.string a0_0, .slice A0_1 l0_1.length c0_1, .string a0_2]] w fun e w' => ∃ v1_ : Value, e = .returned (.agg #[.string r1, v1_, .string r3]) ∧ Kd.S k59 59 w' w.heap.size (fun _ => True) v1_ r2 ∧ Below w.heap.size w w' := by
 have hu42 := Tryd.underlying42; have hu37 := Tryd.underlying37; have hu59 := Tryd.underlying59; have HR0_1 := Aside0.mk hr0_1; have HC0_1 := Aside0.mk hc0_1; clear hr0_1 hc0_1; have HB := Aside0.mk (Below.refl w.heap.size w); have H : (trystlaw10_Theirs.l0 k (l0_1.length : Int) 0 a0_0 l0_1 a0_2 a0_0 ([] : List (S59)) a0_2) = some (r1, r2, r3) := h; clear h; have H' := Aside0.mk H; clear H
 go_enter Tryd.func18, Tryd.ntmps18
 go_wp2_with (first | ((with_reducible refine gate_dst (N := 1) rfl ?_); refine zbox (N := 1) #[.string a0_0, .slice A0_1 l0_1.length c0_1, .string a0_2] 42 (fun gb157 hg w2 hbox hb => ?_); have n0_ := zw hb; have n1_ := Aside0.mk hbox; have n2_ := zg w hg; have n3_ := zg w hg; clear HB; have HB := n0_; have BK157 := n1_; have GW157 := n2_; have GE157 := n3_; clear n0_ n1_ n2_ n3_; clear hb hbox hg) | ((with_reducible refine gate_dst (N := 2) rfl ?_); refine zbox (N := 2) #[.string (⟨#[]⟩ : ByteArray), .slice none 0 0, .string (⟨#[]⟩ : ByteArray)] 37 (fun gb158 hg w3 hbox hb => ?_); replace BK158 := Aside0.mk hbox; replace GW158 := zg w hg; replace GE158 := zg w hg; replace HB := zw hb; replace NB157_158 := zn BK157 hg; replace NB158_157 := zm BK157 hg; replace BK157 := zb BK157 hb; clear hb hbox hg; have hnb4 := NB157_158.out; have hnc4 := NB158_157.out; have hcz5_0 := zc0 BK157; have hcz5_1 := zc1 BK157; have hcz5_2 := zc2 BK157; have hfz5_0 := zf BK157 0; have hfz5_1 := zf BK157 1; have hfz5_2 := zf BK157 2) | ((with_reducible refine gate_dst (N := 3) rfl ?_); refine zbox (N := 3) #[.string (⟨#[]⟩ : ByteArray), .slice none 0 0, .string (⟨#[]⟩ : ByteArray)] 37 (fun gb159 hg w6 hbox hb => ?_); replace BK159 := Aside0.mk hbox; replace GW159 := zg w hg; replace GE159 := zg w hg; replace HB := zw hb; replace NB157_159 := zn BK157 hg; replace NB159_157 := zm BK157 hg; replace BK157 := zb BK157 hb; replace NB158_159 := zn BK158 hg; replace NB159_158 := zm BK158 hg; replace BK158 := zb BK158 hb; clear hb hbox hg; have hnb7 := NB159_157.out; have hnc7 := NB157_159.out; have hnb8 := NB159_158.out; have hnc8 := NB158_159.out; have hcz9_0 := zc0 BK159; have hcz9_1 := zc1 BK159; have hcz9_2 := zc2 BK159; have hfz9_0 := zf BK159 0; have hfz9_1 := zf BK159 1; have hfz9_2 := zf BK159 2; have hcz10_0 := zc0 BK157; have hcz10_1 := zc1 BK157; have hcz10_2 := zc2 BK157; have hfz10_0 := zf BK157 0; have hfz10_1 := zf BK157 1; have hfz10_2 := zf BK157 2))
 go_loopg [13] k (fun kq v13 w' => ∃ (x13_1 : Int) (x160001_1 : List (S59)) (u160001 : Value), v13 = .int .i64 x13_1 ∧ Aside0 (trystlaw10_Theirs.l0 kq (l0_1.length : Int) x13_1 a0_0 l0_1 a0_2 a0_0 x160001_1 a0_2 = some (r1, r2, r3)) ∧ Aside0 (kq ≤ k) ∧ Aside0 (Kd.S k59 59 w' w.heap.size (fun _ => True) u160001 x160001_1) ∧ Aside0 (w'.heap[gb157]? = some (.cells #[.string a0_0, (.slice A0_1 l0_1.length c0_1), .string a0_2] 42 (0, 0))) ∧ Aside0 (w'.heap[gb158]? = some (.cells #[.string (⟨#[]⟩ : ByteArray), (.slice none 0 0), .string (⟨#[]⟩ : ByteArray)] 37 (0, 0))) ∧ Aside0 (w'.heap[gb159]? = some (.cells #[.string a0_0, u160001, .string a0_2] 37 (0, 0))) ∧ Aside0 (Below w.heap.size w w'))
 case atStart => exact ⟨(0), (([] : List (S59))), (.slice none 0 0), zS, H', ⟨Nat.le_refl _⟩, ⟨by first | exact Kd.S_nil _ _ _ _ _ | exact Kd.N_nil _ _ _ _ _ | exact Kd.V_nil _ _ _ _ _ | exact Kd.Q_nil _ _ _ _ _ | exact Kd.R_nil _ _ _ _ _⟩, ⟨by (with_reducible repeat (first | refine blk_drewN ?_ _ | refine blk_drew ?_ | refine blk_alloc ?_ _)); refine blk_far ?_ NB157_159.out _; (with_reducible repeat (first | refine blk_drewN ?_ _ | refine blk_drew ?_ | refine blk_alloc ?_ _)); refine blk_far ?_ NB157_159.out _; (with_reducible repeat (first | refine blk_drewN ?_ _ | refine blk_drew ?_ | refine blk_alloc ?_ _)); refine blk_far ?_ NB157_159.out _; (with_reducible repeat (first | refine blk_drewN ?_ _ | refine blk_drew ?_ | refine blk_alloc ?_ _)); exact BK157.out⟩, ⟨by (with_reducible repeat (first | refine blk_drewN ?_ _ | refine blk_drew ?_ | refine blk_alloc ?_ _)); refine blk_far ?_ NB158_159.out _; (with_reducible repeat (first | refine blk_drewN ?_ _ | refine blk_drew ?_ | refine blk_alloc ?_ _)); refine blk_far ?_ NB158_159.out _; (with_reducible repeat (first | refine blk_drewN ?_ _ | refine blk_drew ?_ | refine blk_alloc ?_ _)); refine blk_far ?_ NB158_159.out _; (with_reducible repeat (first | refine blk_drewN ?_ _ | refine blk_drew ?_ | refine blk_alloc ?_ _)); exact BK158.out⟩, ⟨by (with_reducible repeat (first | refine blk_drewN ?_ _ | refine blk_drew ?_ | refine blk_alloc ?_ _)); refine blk_put (cs := #[.string a0_0, .slice none 0 0, .string (⟨#[]⟩ : ByteArray)]) ?_ 2 _ rfl; (with_reducible repeat (first | refine blk_drewN ?_ _ | refine blk_drew ?_ | refine blk_alloc ?_ _)); refine blk_put (cs := #[.string a0_0, .slice none 0 0, .string (⟨#[]⟩ : ByteArray)]) ?_ 1 _ rfl; (with_reducible repeat (first | refine blk_drewN ?_ _ | refine blk_drew ?_ | refine blk_alloc ?_ _)); refine blk_put (cs := #[.string (⟨#[]⟩ : ByteArray), .slice none 0 0, .string (⟨#[]⟩ : ByteArray)]) ?_ 0 _ rfl; (with_reducible repeat (first | refine blk_drewN ?_ _ | refine blk_drew ?_ | refine blk_alloc ?_ _)); exact BK159.out⟩, ⟨zB⟩⟩
 case round =>
  clear H'; clear hcz10_0 hcz10_1 hcz10_2 hcz5_0 hcz5_1 hcz5_2 hcz9_0 hcz9_1 hcz9_2 hfz10_0 hfz10_1 hfz10_2 hfz5_0 hfz5_1 hfz5_2 hfz9_0 hfz9_1 hfz9_2; obtain ⟨x13_1, x160001_1, u160001, rfl, HA, HK1, HO_160001, BK157, BK158, BK159, HB⟩ := hrel
  cases gk with
  | zero => exact absurd HA.out (by simp [trystlaw10_Theirs.l0])
  | succ k1 =>
   have H := HA.out; clear HA; simp only [trystlaw10_Theirs.l0] at H; replace H := zId H; rcases H with ⟨-, c11b0, H⟩ | ⟨-, c11b0, H⟩
   ·replace H := zJd H; obtain ⟨-, c12b0, H⟩ := H; replace H := zJd H; obtain ⟨-, c13b0, H⟩ := H; obtain ⟨y161, hy161⟩ : ∃ y_ : List ByteArray, y_ = (([] : List ByteArray)) := ⟨_, rfl⟩; replace H : (if y161.length + ((rd_T62 l0_1 x13_1).f1).length < 8796093022208 then (if x160001_1.length < 3518437208883 then (trystlaw10_Theirs.l0 k1 (l0_1.length : Int) (wrap64 (x13_1 + 1)) a0_0 l0_1 a0_2 a0_0 (x160001_1 ++ [(⟨(rd_T62 l0_1 x13_1).f0, (y161 ++ ((rd_T62 l0_1 x13_1).f1))⟩ : S59)]) a0_2) else (none)) else (none)) = some (r1, r2, r3) := by first | (rw [hy161]; with_reducible exact H) | (have H2_ := (Option.bind_some _ _).symm.trans H; rw [hy161]; with_reducible exact H2_) | (have H2_ := (Option.bind_some _ _).symm.trans H; with_reducible exact H2_) | with_reducible exact H | (rw [hy161]; exact H) | exact H
    have Ny161 := Aside0.mk hy161; clear hy161; replace H := zJ H; obtain ⟨c14, H⟩ := H; have LMc14 := Aside0.mk c14; clear c14; obtain ⟨y165, hy165⟩ : ∃ y_ : List ByteArray, y_ = (y161 ++ ((rd_T62 l0_1 x13_1).f1)) := ⟨_, rfl⟩; replace H : (if x160001_1.length < 3518437208883 then (trystlaw10_Theirs.l0 k1 (l0_1.length : Int) (wrap64 (x13_1 + 1)) a0_0 l0_1 a0_2 a0_0 (x160001_1 ++ [(⟨(rd_T62 l0_1 x13_1).f0, y165⟩ : S59)]) a0_2) else (none)) = some (r1, r2, r3) := by first | (rw [hy165]; with_reducible exact H) | (have H2_ := (Option.bind_some _ _).symm.trans H; rw [hy165]; with_reducible exact H2_) | (have H2_ := (Option.bind_some _ _).symm.trans H; with_reducible exact H2_) | with_reducible exact H | (rw [hy165]; exact H) | exact H
    have Ny165 := Aside0.mk hy165; clear hy165; replace H := zJ H; obtain ⟨c15, H⟩ := H; have LMc15 := Aside0.mk c15; clear c15; obtain ⟨y168, hy168⟩ : ∃ y_ : List (S59), y_ = (x160001_1 ++ [(⟨(rd_T62 l0_1 x13_1).f0, y165⟩ : S59)]) := ⟨_, rfl⟩; replace H : (trystlaw10_Theirs.l0 k1 (l0_1.length : Int) (wrap64 (x13_1 + 1)) a0_0 l0_1 a0_2 a0_0 y168 a0_2) = some (r1, r2, r3) := by first | (rw [hy168]; with_reducible exact H) | (have H2_ := (Option.bind_some _ _).symm.trans H; rw [hy168]; with_reducible exact H2_) | (have H2_ := (Option.bind_some _ _).symm.trans H; with_reducible exact H2_) | with_reducible exact H | (rw [hy168]; exact H) | exact H
    have Ny168 := Aside0.mk hy168; clear hy168; have H' := Aside0.mk H; clear H
    try go_wp2
    replace HO_160001 := Aside0.mk (Kd.S_drew HO_160001.out); replace BK157 := Aside0.mk (blk_drew BK157.out); replace BK158 := Aside0.mk (blk_drew BK158.out); replace BK159 := Aside0.mk (blk_drew BK159.out); replace HB := Aside0.mk (below_drew1 HB.out); have p160 := zQ (0 ≤ (x13_1 : Int)); have q160 := zQ (x13_1 < (l0_1.length : Int)); obtain ⟨ad160, A160_1, c160_1, e160, hx160_0, hx160_1, hl160_1, hi160_1⟩ := at_T62 HR0_1.out x13_1 p160 q160; have hw160_1 := hx160_1; have hw160_0 := hx160_0
    cases e160
    replace hx160_0 := zx HB hx160_0; replace hx160_1 := zx HB hx160_1; have HR160_1 := Aside0.mk hi160_1; have HC160_1 := Aside0.mk hl160_1; clear hi160_1 hl160_1; replace p160 := eq_true p160; replace q160 := eq_true q160; have p164 := zQ (0 ≤ (x13_1 : Int)); have q164 := zQ (x13_1 < (l0_1.length : Int)); obtain ⟨ad164, A164_1, c164_1, e164, hx164_0, hx164_1, hl164_1, hi164_1⟩ := at_T62 HR0_1.out x13_1 p164 q164; have hw164_1 := hx164_1; have hw164_0 := hx164_0; obtain rfl : ad160 = ad164 := (by injection e164); replace hx164_0 := zx HB hx164_0; replace hx164_1 := zx HB hx164_1; have HR164_1 := Aside0.mk hi164_1; have HC164_1 := Aside0.mk hl164_1; clear hi164_1 hl164_1
    replace p164 := eq_true p164; replace q164 := eq_true q164; have ea_ := Option.some.inj (hx160_1.symm.trans hx164_1)
    injection ea_ with ea_ en_ ec_
    subst ea_; subst ec_; clear en_
    refine start_ (n := 21) (S := fun w' => w'.cell? ⟨gb159, 0, none⟩ = some (.string a0_0) ∧ w'.cell? ⟨gb159, 1, none⟩ = some (u160001) ∧ w'.cell? ⟨gb159, 2, none⟩ = some (.string a0_2) ∧ w'.cell? ⟨gb157, 0, none⟩ = some (.string a0_0) ∧ w'.cell? ⟨gb157, 1, none⟩ = some (.slice (some ad160) l0_1.length c0_1) ∧ w'.cell? ⟨gb157, 2, none⟩ = some (.string a0_2) ∧ w'.cell? (ad160.add ((x13_1).toNat * 2)) = some (.string ((rd_T62 l0_1 x13_1).f0)) ∧ w'.cell? ⟨(ad160.add ((x13_1).toNat * 2)).block, (ad160.add ((x13_1).toNat * 2)).off + 1, none⟩ = some (.slice A160_1 ((rd_T62 l0_1 x13_1).f1).length c160_1) ∧ w'.cell? (ad160.add ((x13_1).toNat * 2)) = some (.string ((rd_T62 l0_1 x13_1).f0)) ∧ w'.cell? ⟨(ad160.add ((x13_1).toNat * 2)).block, (ad160.add ((x13_1).toNat * 2)).off + 1, none⟩ = some (.slice A160_1 ((rd_T62 l0_1 x13_1).f1).length c160_1)) (ds := [20]) #[false, false, false, false, false, false, false, false, false, false, false, false, false, false, false, false, false, false, false, false, false] (by kernel_rfl) rfl rfl ⟨(blk_cell BK159.out 0).trans rfl, (blk_cell BK159.out 1).trans rfl, (blk_cell BK159.out 2).trans rfl, (blk_cell BK157.out 0).trans rfl, (blk_cell BK157.out 1).trans rfl, (blk_cell BK157.out 2).trans rfl, (zx HB hw160_0), (zx HB hw160_1), (zx HB hw164_0), (zx HB hw164_1)⟩ (fun hHeld => ?_); refine with_tabW trystlaw10_Theirs.tab5 trystlaw10_Theirs.bits5 (fun HT_ HW_ => ?_)
    generalize wr.drew = w16 at HO_160001 BK157 BK158 BK159 HB HR160_1 HR164_1 hx160_0 hx160_1 hx164_0 hx164_1 hHeld ⊢; refine pure_ (i := 0) (N := some 16) (v := ?_) (a' := ?_) #[true, false, false, false, false, false, false, false, false, false, false, false, false, false, false, false, false, false, false, false, false] rfl rfl (any_of HT_.out (by kernel_rfl)) (fun _ _ _ h => h) (Or.inl ⟨by rfl, ?_⟩) ?_ ?_; rotate_left
    ·intro w'; go_simp; with_reducible rfl
    rotate_left
    ·simp only [Act.put, List.setIfInBounds_toArray, List.set_cons_zero, List.set_cons_succ, i64_w, i32_w]; rfl
    refine pure_ (i := 2) (N := some 18) (v := ?_) (a' := ?_) #[true, false, true, false, false, false, false, false, false, false, false, false, false, false, false, false, false, false, false, false, false] rfl rfl (any_of HT_.out (by kernel_rfl)) (fun _ _ _ h => h) (Or.inl ⟨by rfl, ?_⟩) ?_ ?_; rotate_left
    ·intro w'; go_simp; with_reducible rfl
    rotate_left
    ·simp only [Act.put, List.setIfInBounds_toArray, List.set_cons_zero, List.set_cons_succ, i64_w, i32_w]; rfl
    refine pure_ (i := 4) (N := some 20) (v := ?_) (a' := ?_) #[true, false, true, false, true, false, false, false, false, false, false, false, false, false, false, false, false, false, false, false, false] rfl rfl (any_of HT_.out (by kernel_rfl)) (fun _ _ _ h => h) (Or.inl ⟨by rfl, ?_⟩) ?_ ?_; rotate_left
    ·intro w'; go_simp; with_reducible rfl
    rotate_left
    ·simp only [Act.put, List.setIfInBounds_toArray, List.set_cons_zero, List.set_cons_succ, i64_w, i32_w]; rfl
    refine pure_ (i := 9) (N := some 25) (v := ?_) (a' := ?_) #[true, false, true, false, true, false, false, false, false, true, false, false, false, false, false, false, false, false, false, false, false] rfl rfl (any_of HT_.out (by kernel_rfl)) (fun _ _ _ h => h) (Or.inl ⟨by rfl, ?_⟩) ?_ ?_; rotate_left
    ·intro w'; go_simp; with_reducible rfl
    rotate_left
    ·simp only [Act.put, List.setIfInBounds_toArray, List.set_cons_zero, List.set_cons_succ, i64_w, i32_w]; rfl
    refine pure_ (i := 11) (N := some 27) (v := ?_) (a' := ?_) #[true, false, true, false, true, false, false, false, false, true, false, true, false, false, false, false, false, false, false, false, false] rfl rfl (any_of HT_.out (by kernel_rfl)) (fun _ _ _ h => h) (Or.inl ⟨by rfl, ?_⟩) ?_ ?_; rotate_left
    ·intro w'; go_simp; with_reducible rfl
    rotate_left
    ·simp only [Act.put, List.setIfInBounds_toArray, List.set_cons_zero, List.set_cons_succ, i64_w, i32_w]; rfl
    refine take_ (i := 1) (N := some 17) (v := ?_) (a' := ?_) #[true, true, true, false, true, false, false, false, false, true, false, true, false, false, false, false, false, false, false, false, false] rfl rfl (take_ofW HT_.out HW_.out (by kernel_rfl)) (fun _ _ _ h => h) (Or.inl ⟨by rfl, ?_⟩) hHeld ?_ ?_; rotate_left
    ·rintro w' ⟨s0, s1, s2, s3, s4, s5, s6, s7, s8, s9⟩; go_simp; with_reducible rfl
    rotate_left
    ·simp only [Act.put, List.setIfInBounds_toArray, List.set_cons_zero, List.set_cons_succ, i64_w, i32_w]; rfl
    refine take_ (i := 3) (N := some 19) (v := ?_) (a' := ?_) #[true, true, true, true, true, false, false, false, false, true, false, true, false, false, false, false, false, false, false, false, false] rfl rfl (take_ofW HT_.out HW_.out (by kernel_rfl)) (fun _ _ _ h => h) (Or.inl ⟨by rfl, ?_⟩) hHeld ?_ ?_; rotate_left
    ·rintro w' ⟨s0, s1, s2, s3, s4, s5, s6, s7, s8, s9⟩; go_simp; with_reducible rfl
    rotate_left
    ·simp only [Act.put, List.setIfInBounds_toArray, List.set_cons_zero, List.set_cons_succ, i64_w, i32_w]; rfl
    refine pure_ (i := 5) (N := some 21) (v := ?_) (a' := ?_) #[true, true, true, true, true, true, false, false, false, true, false, true, false, false, false, false, false, false, false, false, false] rfl rfl (any_of HT_.out (by kernel_rfl)) (fun _ _ _ h => h) (Or.inl ⟨by rfl, ?_⟩) ?_ ?_; rotate_left
    ·intro w'; go_simp; with_reducible rfl
    rotate_left
    ·simp only [Act.put, List.setIfInBounds_toArray, List.set_cons_zero, List.set_cons_succ, i64_w, i32_w]; rfl
    refine pure_ (i := 6) (N := some 22) (v := ?_) (a' := ?_) #[true, true, true, true, true, true, true, false, false, true, false, true, false, false, false, false, false, false, false, false, false] rfl rfl (any_of HT_.out (by kernel_rfl)) (fun _ _ _ h => h) (Or.inl ⟨by rfl, ?_⟩) ?_ ?_; rotate_left
    ·intro w'; go_simp; with_reducible rfl
    rotate_left
    ·simp only [Act.put, List.setIfInBounds_toArray, List.set_cons_zero, List.set_cons_succ, i64_w, i32_w]; rfl
    refine take_ (i := 7) (N := some 23) (v := ?_) (a' := ?_) #[true, true, true, true, true, true, true, true, false, true, false, true, false, false, false, false, false, false, false, false, false] rfl rfl (take_ofW HT_.out HW_.out (by kernel_rfl)) (fun _ _ _ h => h) (Or.inl ⟨by rfl, ?_⟩) hHeld ?_ ?_; rotate_left
    ·rintro w' ⟨s0, s1, s2, s3, s4, s5, s6, s7, s8, s9⟩; go_simp; with_reducible rfl
    rotate_left
    ·simp only [Act.put, List.setIfInBounds_toArray, List.set_cons_zero, List.set_cons_succ, i64_w, i32_w]; rfl
    refine take_ (i := 10) (N := some 26) (v := ?_) (a' := ?_) #[true, true, true, true, true, true, true, true, false, true, true, true, false, false, false, false, false, false, false, false, false] rfl rfl (take_ofW HT_.out HW_.out (by kernel_rfl)) (fun _ _ _ h => h) (Or.inl ⟨by rfl, ?_⟩) hHeld ?_ ?_; rotate_left
    ·rintro w' ⟨s0, s1, s2, s3, s4, s5, s6, s7, s8, s9⟩; go_simp; with_reducible rfl
    rotate_left
    ·simp only [Act.put, List.setIfInBounds_toArray, List.set_cons_zero, List.set_cons_succ, i64_w, i32_w]; rfl
    refine pure_ (i := 12) (N := some 28) (v := ?_) (a' := ?_) #[true, true, true, true, true, true, true, true, false, true, true, true, true, false, false, false, false, false, false, false, false] rfl rfl (any_of HT_.out (by kernel_rfl)) (fun _ _ _ h => h) (Or.inl ⟨by rfl, ?_⟩) ?_ ?_; rotate_left
    ·intro w'; go_simp; with_reducible rfl
    rotate_left
    ·simp only [Act.put, List.setIfInBounds_toArray, List.set_cons_zero, List.set_cons_succ, i64_w, i32_w]; rfl
    refine pure_ (i := 13) (N := some 29) (v := ?_) (a' := ?_) #[true, true, true, true, true, true, true, true, false, true, true, true, true, true, false, false, false, false, false, false, false] rfl rfl (any_of HT_.out (by kernel_rfl)) (fun _ _ _ h => h) (Or.inl ⟨by rfl, ?_⟩) ?_ ?_; rotate_left
    ·intro w'; go_simp; with_reducible rfl
    rotate_left
    ·simp only [Act.put, List.setIfInBounds_toArray, List.set_cons_zero, List.set_cons_succ, i64_w, i32_w]; rfl
    refine take_ (i := 14) (N := some 30) (v := ?_) (a' := ?_) #[true, true, true, true, true, true, true, true, false, true, true, true, true, true, true, false, false, false, false, false, false] rfl rfl (take_ofW HT_.out HW_.out (by kernel_rfl)) (fun _ _ _ h => h) (Or.inl ⟨by rfl, ?_⟩) hHeld ?_ ?_; rotate_left
    ·rintro w' ⟨s0, s1, s2, s3, s4, s5, s6, s7, s8, s9⟩; go_simp; with_reducible rfl
    rotate_left
    ·simp only [Act.put, List.setIfInBounds_toArray, List.set_cons_zero, List.set_cons_succ, i64_w, i32_w]; rfl
    refine one_ (i := 8) (N := some 24) #[true, true, true, true, true, true, true, true, true, true, true, true, true, true, true, false, false, false, false, false, false] rfl rfl (one_of HT_.out (by kernel_rfl)) (by decide) (fun K hK => ?_); refine Kd.R_lit_step Kd.string _ 9 ?hg (N := 24) ?hd (xs := ([] : List ByteArray)) (inner := []) (ok := fun _ => True) (okp := fun _ => True) ?hr ?hp (fun _ hk => hk) trivial (Below.refl _ _) (Nat.le_refl _) (by simp) ?_; (case hd => rfl); (case hg => rfl); (case hr => first | (go_simp; done) | (go_simp; rfl)); (case hp => exact (Reps.none _ _)); intro v162 w17 ho18 hb hg_ hnew_; clear hg_ hnew_
    (first | rw [← Ny161.out] at ho18 | (simp only [Int.reduceToNat] at ho18; rw [← Ny161.out] at ho18))
    replace HO_160001 := Aside0.mk (Kd.S_elder' (Kd.S_below HO_160001.out zX) (Kd.R_base ho18) hb); replace HO163 := Aside0.mk (Kd.R_lower ho18 (below_size zB)); replace BK157 := zb BK157 hb; replace BK158 := zb BK158 hb; replace BK159 := zb BK159 hb; replace HB := zw hb; clear hb ho18
    refine hK.out _ _ ⟨(blk_cell BK159.out 0).trans rfl, (blk_cell BK159.out 1).trans rfl, (blk_cell BK159.out 2).trans rfl, (blk_cell BK157.out 0).trans rfl, (blk_cell BK157.out 1).trans rfl, (blk_cell BK157.out 2).trans rfl, (zx HB hw160_0), (zx HB hw160_1), (zx HB hw164_0), (zx HB hw164_1)⟩ (fun hHeld => ?_); clear hK K; refine norm_ (a' := ?_) ?_ ?_; rotate_left
    ·show Act.put _ (some 24) _ = _
     simp only [Act.put, List.setIfInBounds_toArray, List.set_cons_zero, List.set_cons_succ, i64_w, i32_w]; rfl
    refine one_ (i := 15) (N := some 31) #[true, true, true, true, true, true, true, true, true, true, true, true, true, true, true, true, false, false, false, false, false] rfl rfl (one_of HT_.out (by kernel_rfl)) (by decide) (fun K hK => ?_); refine Kd.R_append_rows_step Kd.string (w0 := w) w.heap.size (by rfl) (.tmp 24) (.tmp 30) 57 9 (.string ⟨#[]⟩) 16 rfl Tryd.underlying57 info9 rfl (by decide) (by omega) v162 y161 ((rd_T62 l0_1 x13_1).f1) _ _ _ (fun _ => True) (fun _ => False) rfl rfl ?aO ?aR (fun _ _ h => h) (fun _ h => h.elim) ?aF ?aB ?aS ?aL ?_
    (case aR => repeat (first | exact (Kd.C_below HR164_1.out HB.out) | (with_reducible refine Kd.C_alloc ?_ _) | (with_reducible refine Kd.C_drewN ?_ _) | (with_reducible refine Kd.C_drew ?_)))
    (case aB => exact zB)
    (case aF => exact (fun _ _ => trivial))
    (case aO => exact (Kd.R_below HO163.out zX))
    (case aS => exact (below_size zB))
    (case aL => have := LMc14.out; omega)
    intro v166 w19 ho hb hg hat; rw [← Ny165.out] at ho; have n0_ := Aside0.mk (Kd.S_after (ok := (fun _ => True)) (Kd.S_below HO_160001.out zX) hg hat); have n1_ := Aside0.mk (blk_grown (g := gb157) (o := .cells #[.string a0_0, .slice (some ad160) l0_1.length c0_1, .string a0_2] 42 (0, 0)) (blk_below BK157.out zX) hg (Kd.R_ne HO163.out BK157.out (by decide))); have n2_ := Aside0.mk (blk_grown (g := gb158) (o := .cells #[.string (⟨#[]⟩ : ByteArray), .slice none 0 0, .string (⟨#[]⟩ : ByteArray)] 37 (0, 0)) (blk_below BK158.out zX) hg (Kd.R_ne HO163.out BK158.out (by decide))); have n3_ := Aside0.mk (blk_grown (g := gb159) (o := .cells #[.string a0_0, u160001, .string a0_2] 37 (0, 0)) (blk_below BK159.out zX) hg (Kd.R_ne HO163.out BK159.out (by decide))); have n4_ := Aside0.mk (hb); have n5_ := Aside0.mk (ho); clear HO_160001; clear BK157; clear BK158; clear BK159; clear HB; clear HO163
    have HO_160001 := n0_; have BK157 := n1_; have BK158 := n2_; have BK159 := n3_; have HB := n4_; have HO167 := n5_; clear n0_ n1_ n2_ n3_ n4_ n5_; clear ho hb hg hat; obtain ⟨Ao20, co20, eo20⟩ := Kd.R_slice HO167.out
    (first | subst eo20 | (injection eo20 with f1_ f2_ f3_; have f4_ := f1_.symm; have f5_ := f3_.symm; clear f1_ f2_ f3_; subst f4_; subst f5_))
    refine hK.out _ _ ⟨(blk_cell BK159.out 0).trans rfl, (blk_cell BK159.out 1).trans rfl, (blk_cell BK159.out 2).trans rfl, (blk_cell BK157.out 0).trans rfl, (blk_cell BK157.out 1).trans rfl, (blk_cell BK157.out 2).trans rfl, (zx HB hw160_0), (zx HB hw160_1), (zx HB hw164_0), (zx HB hw164_1)⟩ (fun hHeld => ?_); clear hK K; refine norm_ (a' := ?_) ?_ ?_; rotate_left
    ·show Act.put _ (some 31) _ = _
     simp only [Act.put, List.setIfInBounds_toArray, List.set_cons_zero, List.set_cons_succ, i64_w, i32_w]; rfl
    refine pure_ (i := 16) (N := some 32) (v := ?_) (a' := ?_) #[true, true, true, true, true, true, true, true, true, true, true, true, true, true, true, true, true, false, false, false, false] rfl rfl (any_of HT_.out (by kernel_rfl)) (fun _ _ _ h => h) (Or.inl ⟨by rfl, ?_⟩) ?_ ?_; rotate_left
    ·intro w'; go_simp; with_reducible rfl
    rotate_left
    ·simp only [Act.put, List.setIfInBounds_toArray, List.set_cons_zero, List.set_cons_succ, i64_w, i32_w]; rfl
    refine one_ (i := 17) (N := some 33) #[true, true, true, true, true, true, true, true, true, true, true, true, true, true, true, true, true, true, false, false, false] rfl rfl (one_of HT_.out (by kernel_rfl)) (by decide) (fun K hK => ?_); refine value_ (w1 := ?_) (v := ?_) (by rfl) rfl ?_ ?_; rotate_left 2
    ·go_simp
     constructor
     ·rfl
     ·rfl
    refine hK.out _ _ ⟨(blk_cell (blk_alloc BK159.out _) 0).trans rfl, (blk_cell (blk_alloc BK159.out _) 1).trans rfl, (blk_cell (blk_alloc BK159.out _) 2).trans rfl, (blk_cell (blk_alloc BK157.out _) 0).trans rfl, (blk_cell (blk_alloc BK157.out _) 1).trans rfl, (blk_cell (blk_alloc BK157.out _) 2).trans rfl, (World.cell?_alloc_lt _ _ _ (World.block_lt_of_cell? _ _ ((zx HB hw160_0)))).trans ((zx HB hw160_0)), (World.cell?_alloc_lt _ _ _ (World.block_lt_of_cell? _ _ ((zx HB hw160_1)))).trans ((zx HB hw160_1)), (World.cell?_alloc_lt _ _ _ (World.block_lt_of_cell? _ _ ((zx HB hw164_0)))).trans ((zx HB hw164_0)), (World.cell?_alloc_lt _ _ _ (World.block_lt_of_cell? _ _ ((zx HB hw164_1)))).trans ((zx HB hw164_1))⟩ (fun hHeld => ?_)
    clear hK K; refine norm_ (a' := ?_) ?_ ?_; rotate_left
    ·show Act.put _ (some 33) _ = _
     simp only [Act.put, List.setIfInBounds_toArray, List.set_cons_zero, List.set_cons_succ, i64_w, i32_w]; rfl
    refine one_ (i := 18) (N := some 34) #[true, true, true, true, true, true, true, true, true, true, true, true, true, true, true, true, true, true, true, false, false] rfl rfl (one_of HT_.out (by kernel_rfl)) (by decide) (fun K hK => ?_); refine Kd.S_append_step k59 (w0 := w) w.heap.size (by rfl) (.tmp 17) (.tmp 33) 35 59 (.agg #[(.string ⟨#[]⟩), (.slice none 0 0)]) 40 rfl Tryd.underlying35 info59 rfl (by decide) (by omega) u160001 x160001_1 (⟨(rd_T62 l0_1 x13_1).f0, y165⟩ : S59) [.string ((rd_T62 l0_1 x13_1).f0), .slice Ao20 y165.length co20] (fun _ => True) (fun k_ => some k_ = (.slice Ao20 y165.length co20 : Value).ownBlock) rfl rfl ?aP (fun k_ hk_ => ((Kd.R_mono (ok' := fun k_ => ((fun _ => True)) k_ ∧ some k_ ≠ (u160001 : Value).ownBlock) (Kd.R_apart' (HO167.out) (Kd.S_typed HO_160001.out) (by decide)) (fun k_ hk => ⟨trivial, hk.2⟩))).1 k_ hk_.symm) ?aF ?aO ?aB ?aS ?aL ?_
    (case aP => exact k59_mkM _ _ _ (⟨(rd_T62 l0_1 x13_1).f0, y165⟩ : S59) (Kd.R_mono (Kd.R_tight rfl (Kd.R_mono (ok' := fun k_ => ((fun _ => True)) k_ ∧ some k_ ≠ (u160001 : Value).ownBlock) (Kd.R_apart' (HO167.out) (Kd.S_typed HO_160001.out) (by decide)) (fun k_ hk => ⟨trivial, hk.2⟩))) (fun _ h_ => h_)))
    (case aB => exact zB)
    (case aF => exact (fun _ _ => trivial))
    (case aO => exact (by (with_reducible repeat (first | apply Kd.S_alloc | apply Kd.S_drewN | apply Kd.S_drew)); exact Kd.S_mono HO_160001.out (fun k_ hk => ⟨trivial, fun e_ => hk.2 e_⟩)))
    (case aS => exact (below_size zB))
    (case aL => have := LMc15.out; omega)
    intro v169 w21 ho hb hg hat; rw [← Ny168.out] at ho; have n0_ := Aside0.mk (blk_grown (g := gb157) (o := .cells #[.string a0_0, .slice (some ad160) l0_1.length c0_1, .string a0_2] 42 (0, 0)) (blk_below BK157.out zX) hg (Kd.S_ne HO_160001.out BK157.out (by decide))); have n1_ := Aside0.mk (blk_grown (g := gb158) (o := .cells #[.string (⟨#[]⟩ : ByteArray), .slice none 0 0, .string (⟨#[]⟩ : ByteArray)] 37 (0, 0)) (blk_below BK158.out zX) hg (Kd.S_ne HO_160001.out BK158.out (by decide))); have n2_ := Aside0.mk (blk_grown (g := gb159) (o := .cells #[.string a0_0, u160001, .string a0_2] 37 (0, 0)) (blk_below BK159.out zX) hg (Kd.S_ne HO_160001.out BK159.out (by decide))); have n3_ := Aside0.mk (hb); have n4_ := Aside0.mk (ho); clear BK157; clear BK158; clear BK159; clear HB; clear HO_160001; clear HO167; have BK157 := n0_; have BK158 := n1_; have BK159 := n2_; have HB := n3_
    have HO170 := n4_; clear n0_ n1_ n2_ n3_ n4_; clear ho hb hg hat; obtain ⟨Ao22, co22, eo22⟩ := Kd.S_slice HO170.out
    (first | subst eo22 | (injection eo22 with f1_ f2_ f3_; have f4_ := f1_.symm; have f5_ := f3_.symm; clear f1_ f2_ f3_; subst f4_; subst f5_))
    refine hK.out _ _ ⟨(blk_cell BK159.out 0).trans rfl, (blk_cell BK159.out 1).trans rfl, (blk_cell BK159.out 2).trans rfl, (blk_cell BK157.out 0).trans rfl, (blk_cell BK157.out 1).trans rfl, (blk_cell BK157.out 2).trans rfl, (zx HB hw160_0), (zx HB hw160_1), (zx HB hw164_0), (zx HB hw164_1)⟩ (fun hHeld => ?_); clear hK K; refine norm_ (a' := ?_) ?_ ?_; rotate_left
    ·show Act.put _ (some 34) _ = _
     simp only [Act.put, List.setIfInBounds_toArray, List.set_cons_zero, List.set_cons_succ, i64_w, i32_w]; rfl
    refine pure_ (i := 19) (N := some 35) (v := ?_) (a' := ?_) #[true, true, true, true, true, true, true, true, true, true, true, true, true, true, true, true, true, true, true, true, false] rfl rfl (any_of HT_.out (by kernel_rfl)) (fun _ _ _ h => h) (Or.inl ⟨by rfl, ?_⟩) ?_ ?_; rotate_left
    ·intro w'; go_simp; with_reducible rfl
    rotate_left
    ·simp only [Act.put, List.setIfInBounds_toArray, List.set_cons_zero, List.set_cons_succ, i64_w, i32_w]; rfl
    refine last_ (i := 20) (N := none) #[true, true, true, true, true, true, true, true, true, true, true, true, true, true, true, true, true, true, true, true, true] rfl rfl (one_of HT_.out (by kernel_rfl)) (by decide) (fun K hK => ?_); have hs23 : w21.cell? ⟨gb159, 1, none⟩ = some (u160001) := (blk_cell BK159.out 1).trans rfl; have hfs23 := zf BK159 1; have hns23_0 := NB157_159.out; have hns23_1 := NB158_159.out; have hms23_0 := NB159_157.out; have hms23_1 := NB159_158.out; refine skip_ (w1 := ?_) (by rfl) rfl ?_ ?_; rotate_left
    ·go_simp; rfl
    refine hK.out _ _ ?_; clear hK K; refine done_ (done_of HT_.out (by kernel_rfl)) ?_
    try go_wp2
    go_roundg k1
    case measure => have := HK1.out; omega
    case rel => exact ⟨(wrap64 (x13_1 + 1)), (y168), (.slice Ao22 y168.length co22), zS, H', ⟨by have := HK1.out; omega⟩, ⟨by (with_reducible repeat (first | apply Kd.S_alloc | apply Kd.S_drewN | apply Kd.S_drew)); exact Kd.S_mono (Kd.S_far (p := ⟨gb159, 1, none⟩) (Kd.S_types HO170.out BK159.out (by decide)) (fun _ hk => hk.2) (.slice Ao22 y168.length co22)) (fun _ hk => trivial)⟩, ⟨by (with_reducible repeat (first | refine blk_drewN ?_ _ | refine blk_drew ?_ | refine blk_alloc ?_ _)); refine blk_far ?_ NB157_159.out _; (with_reducible repeat (first | refine blk_drewN ?_ _ | refine blk_drew ?_ | refine blk_alloc ?_ _)); exact BK157.out⟩, ⟨by (with_reducible repeat (first | refine blk_drewN ?_ _ | refine blk_drew ?_ | refine blk_alloc ?_ _)); refine blk_far ?_ NB158_159.out _; (with_reducible repeat (first | refine blk_drewN ?_ _ | refine blk_drew ?_ | refine blk_alloc ?_ _)); exact BK158.out⟩, ⟨by (with_reducible repeat (first | refine blk_drewN ?_ _ | refine blk_drew ?_ | refine blk_alloc ?_ _)); refine blk_put (cs := #[.string a0_0, u160001, .string a0_2]) ?_ 1 _ rfl; (with_reducible repeat (first | refine blk_drewN ?_ _ | refine blk_drew ?_ | refine blk_alloc ?_ _)); exact BK159.out⟩, ⟨zB⟩⟩
   ·simp only [Option.some.injEq, Prod.mk.injEq] at H; obtain ⟨rfl, rfl, rfl⟩ := H; have hnb24 := NB159_157.out; have hnc24 := NB157_159.out; have hnb25 := NB159_158.out; have hnc25 := NB158_159.out; have hcz26_0 := zc0 BK159; have hcz26_1 := zc1 BK159; have hcz26_2 := zc2 BK159; have hfz26_0 := zf BK159 0; have hfz26_1 := zf BK159 1; have hfz26_2 := zf BK159 2; have hnb27 := NB158_157.out; have hnc27 := NB157_158.out; have hcz28_0 := zc0 BK158; have hcz28_1 := zc1 BK158
    have hcz28_2 := zc2 BK158; have hfz28_0 := zf BK158 0; have hfz28_1 := zf BK158 1; have hfz28_2 := zf BK158 2; obtain ⟨Ao29, co29, eo29⟩ := Kd.S_slice HO_160001.out; subst eo29; go_wp2
    refine bodyPost_ret (results_cell_row rfl _ _ gb158 37 #[.string a0_0, .slice Ao29 x160001_1.length co29, .string a0_2] (0, 0) _ rfl (by (with_reducible repeat (first | refine blk_drewN ?_ _ | refine blk_drew ?_ | refine blk_alloc ?_ _)); refine blk_put (cs := #[.string a0_0, .slice Ao29 x160001_1.length co29, .string (⟨#[]⟩ : ByteArray)]) ?_ 2 _ rfl; (with_reducible repeat (first | refine blk_drewN ?_ _ | refine blk_drew ?_ | refine blk_alloc ?_ _)); refine blk_put (cs := #[.string a0_0, .slice none 0 0, .string (⟨#[]⟩ : ByteArray)]) ?_ 1 _ rfl; (with_reducible repeat (first | refine blk_drewN ?_ _ | refine blk_drew ?_ | refine blk_alloc ?_ _)); refine blk_put (cs := #[.string (⟨#[]⟩ : ByteArray), .slice none 0 0, .string (⟨#[]⟩ : ByteArray)]) ?_ 0 _ rfl; (with_reducible repeat (first | refine blk_drewN ?_ _ | refine blk_drew ?_ | refine blk_alloc ?_ _)); exact BK158.out) Tryd.underlying37 rfl (by kernel_rfl)) rfl ?_
    exact ⟨_, zE, by (with_reducible repeat (first | apply Kd.S_alloc | apply Kd.S_drewN | apply Kd.S_drew)); exact Kd.S_mono (Kd.S_far (p := ⟨gb158, 2, none⟩) (Kd.S_far (p := ⟨gb158, 1, none⟩) (Kd.S_far (p := ⟨gb158, 0, none⟩) (Kd.S_types HO_160001.out BK158.out (by decide)) (fun _ hk => hk.2) (.string a0_0)) (fun _ hk => hk.2) (.slice Ao29 x160001_1.length co29)) (fun _ hk => hk.2) (.string a0_2)) (fun _ hk => trivial), zB⟩
end Go.Proofs.YtdojmdbaiddkgaaDoor.Print
end
section
set_option linter.unusedVariables false
set_option linter.unusedSimpArgs false
set_option linter.unusedSectionVars false
namespace Go.Proofs.YtdojmdbaiddkgaaDoor.Pure
open Go.RowKit Go.Proofs.YtdojmdbaiddkgaaDoor.Print Go.Proofs.YtdojmdbaiddkgaaDoorW.PrintWords Go.Proofs.YtdojmdbaiddkgaaDoorW.PrintLast Go.Proofs.YtdojmdbaiddkgaaDoorW.PrintMore
abbrev RP := S62
abbrev LP := S59
def toP (x : RP) : LP := ⟨x.f0, x.f1⟩
theorem wrapS (i n : Nat) (h : i < n) (hn : n ≤ 9000000000000000000) : wrap64 ((i : Int) + 1) = ((i + 1 : Nat) : Int) := by unfold wrap64; omega
theorem rdR (l : List RP) (i : Nat) (h : i < l.length) : rd_T62 l (i : Int) = l[i] := by
  unfold rd_T62
  rw [Int.toNat_natCast, List.getD_eq_getElem?_getD, List.getElem?_eq_getElem h]; rfl
theorem few1_ev (nm v : ByteArray) (l : List RP) (i : Nat) (hi : i < l.length) (hl : l.length ≤ 9000000000000000000) (hv : l[i].f1.length ≤ 9000000000000000000)
    (next : ∀ x3 : Int, ∃ b, Ev (fun k => trystlaw10_Few.l0 k x3 (l.length : Int) ((i + 1 : Nat) : Int) nm l v) b) :
    ∀ (d j : Nat) (x3 : Int), j + d = l[i].f1.length → ∃ b, Ev (fun k => trystlaw10_Few.l1 k x3 (i : Int) (l.length : Int) (i : Int) (l[i].f1.length : Int) (j : Int) nm l v) b := by
  intro d
  induction d with
  | zero =>
    intro j x3 hj
    by_cases h5 : x3 > 5000
    · exact ⟨false, Ev.step (f := fun _ => some false) (fun k => by simp only [trystlaw10_Few.l1]; rw [if_neg (by omega), if_pos h5]) (Ev.now _)⟩
    · obtain ⟨b, hb⟩ := next x3
      exact ⟨b, Ev.step (fun k => by simp only [trystlaw10_Few.l1]; rw [if_neg (by omega), if_neg h5, wrapS i _ hi hl]) hb⟩
  | succ d ih =>
    intro j x3 hj
    obtain ⟨b, hb⟩ := ih (j + 1) (wrap64 ((wrap64 (x3 + ((rdOf ByteArray.empty (l[i].f1) (j : Int)).size : Int))) + 1)) (by omega)
    exact ⟨b, Ev.step (fun k => by simp only [trystlaw10_Few.l1]; rw [if_pos (by omega), if_pos (by omega), if_pos (by omega), if_pos (by omega), rdR l i hi, if_pos (by omega), wrapS j _ (by omega) hv]) hb⟩
theorem few_ev (nm v : ByteArray) (l : List RP) (hl : l.length ≤ 9000000000000000000) (hv : ∀ x ∈ l, x.f1.length ≤ 9000000000000000000) :
    ∀ (d i : Nat) (x3 : Int), i + d = l.length → ∃ b, Ev (fun k => trystlaw10_Few.l0 k x3 (l.length : Int) (i : Int) nm l v) b := by
  intro d
  induction d with
  | zero =>
    intro i x3 hi
    exact ⟨_, Ev.step (f := fun _ => some (decide (x3 ≤ 5000))) (fun k => by simp only [trystlaw10_Few.l0]; rw [if_neg (by omega)]) (Ev.now _)⟩
  | succ d ih =>
    intro i x3 hi
    have hil : i < l.length := by omega
    obtain ⟨b, hb⟩ := few1_ev nm v l i hil hl (hv _ (List.getElem_mem hil)) (fun x => ih (i + 1) x (by omega)) l[i].f1.length 0 (wrap64 ((wrap64 (x3 + (l[i].f0.size : Int))) + 1)) (by omega)
    exact ⟨b, Ev.step (fun k => by simp only [trystlaw10_Few.l0]; rw [if_pos (by omega), if_pos (by omega), if_pos (by omega), rdR l i hil]; rfl) hb⟩
theorem theirs_ev (nm v : ByteArray) (l : List RP) (hl : l.length < 3518437208883) (hv : ∀ x ∈ l, x.f1.length < 8796093022208) :
    ∀ (d i : Nat) (acc : List LP), i + d = l.length → acc.length = i → Ev (fun k => trystlaw10_Theirs.l0 k (l.length : Int) (i : Int) nm l v nm acc v) (nm, acc ++ (l.drop i).map toP, v) := by
  intro d
  induction d with
  | zero =>
    intro i acc hi ha
    rw [List.drop_eq_nil_of_le (by omega), List.map_nil, List.append_nil]
    exact Ev.step (f := fun _ => some (nm, acc, v)) (fun k => by simp only [trystlaw10_Theirs.l0]; rw [if_neg (by omega)]) (Ev.now _)
  | succ d ih =>
    intro i acc hi ha
    have hil : i < l.length := by omega
    have h1 := hv _ (List.getElem_mem hil)
    have := ih (i + 1) (acc ++ [toP l[i]]) (by omega) (by simp [ha])
    rw [List.drop_eq_getElem_cons hil, List.map_cons, List.append_cons]
    refine Ev.step (fun k => ?_) this
    simp only [trystlaw10_Theirs.l0]
    rw [if_pos (by omega), if_pos (by omega), if_pos (by omega), Option.bind_some, rdR l i hil, if_pos (by simpa using h1), if_pos (by omega), wrapS i _ hil (by omega), List.nil_append]
    rfl
theorem theirs (nm v : ByteArray) (l : List RP) (hl : l.length < 3518437208883) (hv : ∀ x ∈ l, x.f1.length < 8796093022208) : Ev (fun k => trystlaw10_Theirs.f k nm l v) (nm, l.map toP, v) := by
  have := theirs_ev nm v l hl hv l.length 0 [] (by omega) rfl
  rw [List.nil_append, List.drop_zero] at this
  exact this
theorem toList_ba {a b : ByteArray} : a.toList = b.toList ↔ a = b := ⟨ba_toList, fun h => by rw [h]⟩
theorem rdS (l : List ByteArray) (i : Nat) (h : i < l.length) : rdOf ByteArray.empty l (i : Int) = l[i] := by
  unfold rdOf
  rw [Int.toNat_natCast, List.getD_eq_getElem?_getD, List.getElem?_eq_getElem h]; rfl
theorem same08_ev (x y : List ByteArray) (hxy : x.length = y.length) (hl : x.length ≤ 9000000000000000000) :
    ∀ (d i : Nat), i + d = x.length → Ev (fun k => trystlaw08_Same.l0 k x y (x.length : Int) (i : Int)) (decide (x.drop i = y.drop i)) := by
  intro d
  induction d with
  | zero =>
    intro i hi
    rw [List.drop_eq_nil_of_le (by omega), List.drop_eq_nil_of_le (by omega)]
    exact Ev.step (f := fun _ => some true) (fun k => by simp only [trystlaw08_Same.l0]; rw [if_neg (by omega)]) (Ev.now _)
  | succ d ih =>
    intro i hi
    have hx : i < x.length := by omega
    have hy : i < y.length := by omega
    rw [List.drop_eq_getElem_cons hx, List.drop_eq_getElem_cons hy]
    by_cases h : x[i] = y[i]
    · have e : decide (x[i] :: x.drop (i + 1) = y[i] :: y.drop (i + 1)) = decide (x.drop (i + 1) = y.drop (i + 1)) := decide_eq_decide.2 ⟨fun he => (List.cons.inj he).2, fun he => by rw [h, he]⟩
      rw [e]
      exact Ev.step (fun k => by simp only [trystlaw08_Same.l0]; rw [if_pos (by omega), if_pos (by omega), if_pos (by omega), if_pos (by omega), rdS x i hx, rdS y i hy, if_pos (by rw [h]), wrapS i _ hx hl]) (ih (i + 1) (by omega))
    · have e : decide (x[i] :: x.drop (i + 1) = y[i] :: y.drop (i + 1)) = false := decide_eq_false (fun he => h (List.cons.inj he).1)
      rw [e]
      exact Ev.step (f := fun _ => some false) (fun k => by simp only [trystlaw08_Same.l0]; rw [if_pos (by omega), if_pos (by omega), if_pos (by omega), if_pos (by omega), rdS x i hx, rdS y i hy, if_neg (fun he => h (toList_ba.1 he))]) (Ev.now _)
theorem same08 (x y : List ByteArray) (hl : x.length ≤ 9000000000000000000) : Ev (fun k => trystlaw08_Same.f k x y) (decide (x = y)) := by
  by_cases h : x.length = y.length
  · have := same08_ev x y h hl x.length 0 (by omega)
    rw [List.drop_zero, List.drop_zero] at this
    exact Ev.congr (fun k => by unfold trystlaw08_Same.f; rw [if_pos (by omega)]; rfl) this
  · rw [decide_eq_false (fun e => h (by rw [e]))]
    exact Ev.congr (fun k => by unfold trystlaw08_Same.f; rw [if_neg (by omega)]) (Ev.now _)
theorem eqPs_drop (x y : List RP) (i : Nat) (hx : i < x.length) (hy : i < y.length) : eqPs ((x.drop i).map toP) ((y.drop i).map toP) = (decide (x[i].f0 = y[i].f0) && decide (x[i].f1 = y[i].f1) && eqPs ((x.drop (i + 1)).map toP) ((y.drop (i + 1)).map toP)) := by
  rw [List.drop_eq_getElem_cons hx, List.drop_eq_getElem_cons hy, List.map_cons, List.map_cons]
  rfl
theorem same10_ev (a v b u : ByteArray) (x y : List RP) (hxy : x.length = y.length) (hl : x.length ≤ 9000000000000000000) (hv : ∀ p ∈ x, p.f1.length ≤ 9000000000000000000) :
    ∀ (d i : Nat), i + d = x.length → Ev (fun k => trystlaw10_Same.l0 k (x.length : Int) (i : Int) a x v b y u) (eqPs ((x.drop i).map toP) ((y.drop i).map toP)) := by
  intro d
  induction d with
  | zero =>
    intro i hi
    rw [List.drop_eq_nil_of_le (by omega), List.drop_eq_nil_of_le (by omega)]
    exact Ev.step (f := fun _ => some true) (fun k => by simp only [trystlaw10_Same.l0]; rw [if_neg (by omega)]) (Ev.now _)
  | succ d ih =>
    intro i hi
    have hx : i < x.length := by omega
    have hy : i < y.length := by omega
    rw [eqPs_drop x y i hx hy]
    by_cases h : x[i].f0 = y[i].f0
    · rw [decide_eq_true h, Bool.true_and]
      refine Ev.step (f := fun k => (trystlaw08_Same.f k x[i].f1 y[i].f1).bind fun t => if t = true then trystlaw10_Same.l0 k (x.length : Int) ((i + 1 : Nat) : Int) a x v b y u else some false) (fun k => by simp only [trystlaw10_Same.l0]; rw [if_pos (by omega), if_pos (by omega), if_pos (by omega), if_pos (by omega), rdR x i hx, rdR y i hy, if_pos (by rw [h]), wrapS i _ hx hl]) ?_
      refine Ev.bind (same08 _ _ (hv _ (List.getElem_mem hx))) ?_
      by_cases h2 : x[i].f1 = y[i].f1
      · rw [decide_eq_true h2]; exact ih (i + 1) (by omega)
      · rw [decide_eq_false h2]; exact Ev.now _
    · rw [decide_eq_false h, Bool.false_and]
      exact Ev.step (f := fun _ => some false) (fun k => by simp only [trystlaw10_Same.l0]; rw [if_pos (by omega), if_pos (by omega), if_pos (by omega), if_pos (by omega), rdR x i hx, rdR y i hy, if_neg (fun he => h (toList_ba.1 he))]) (Ev.now _)
theorem same10 (a v b u : ByteArray) (x y : List RP) (hl : x.length ≤ 9000000000000000000) (hv : ∀ p ∈ x, p.f1.length ≤ 9000000000000000000) : Ev (fun k => trystlaw10_Same.f k a x v b y u) (eqL a (x.map toP) v b (y.map toP) u) := by
  unfold eqL
  have hno : Ev (fun k : Nat => trystlaw10_Same.j0 k true a x v b y u) false := Ev.step (f := fun _ => some false) (fun k => by simp only [trystlaw10_Same.j0]; rfl) (Ev.now _)
  by_cases h1 : a = b
  · by_cases h2 : v = u
    · rw [decide_eq_true h1, decide_eq_true h2, Bool.true_and, Bool.true_and]
      refine Ev.congr (f := fun k => trystlaw10_Same.j0 k ((x.length : Int) != (y.length : Int)) a x v b y u) (fun k => by unfold trystlaw10_Same.f; rw [if_pos (by rw [h1]), if_pos (by rw [h2])]) ?_
      by_cases h3 : x.length = y.length
      · have e : ((x.length : Int) != (y.length : Int)) = false := by simp [h3]
        rw [e]
        have := same10_ev a v b u x y h3 hl hv x.length 0 (by omega)
        rw [List.drop_zero, List.drop_zero] at this
        exact Ev.step (fun k => by simp only [trystlaw10_Same.j0]; rfl) this
      · have e : ((x.length : Int) != (y.length : Int)) = true := by simp; omega
        rw [e, eqPs_len _ _ (by simpa using h3)]
        exact hno
    · rw [decide_eq_false h2, Bool.and_false, Bool.false_and]
      exact Ev.congr (fun k => by unfold trystlaw10_Same.f; rw [if_pos (by rw [h1]), if_neg (fun e => h2 (toList_ba.1 e))]) hno
  · rw [decide_eq_false h1, Bool.false_and, Bool.false_and]
    exact Ev.congr (fun k => by unfold trystlaw10_Same.f; rw [if_neg (fun e => h1 (toList_ba.1 e))]) hno
theorem eqPs_self : ∀ l : List LP, eqPs l l = true
  | [] => rfl
  | p :: t => by unfold eqPs eqP; simp [eqPs_self t]
end Go.Proofs.YtdojmdbaiddkgaaDoor.Pure
end
section
set_option linter.unusedVariables false
set_option linter.unusedSimpArgs false
namespace Go.Proofs.YtdojmdbaiddkgaaDoor.Print
open Go.RowKit Go.Proofs.YtdojmdbaiddkgaaDoorW.PrintWords Go.Proofs.YtdojmdbaiddkgaaDoorW.PrintLast Go.Proofs.YtdojmdbaiddkgaaDoorW.PrintMore
/-- A line of a row, by its block. -/
theorem line_at0 {w : World} {A : Option Addr} {l : List S37} (h : Kd.C k37 w A l.length l) (i : Nat) (hi : i < l.length) : ∃ b o A1 c1, A = some ⟨b, o, none⟩ ∧ w.cell? ⟨b, o + i * 3, none⟩ = some (.string (l.getD i z37).f0) ∧ w.cell? ⟨b, o + i * 3 + 1, none⟩ = some (.slice A1 (l.getD i z37).f1.length c1) ∧ w.cell? ⟨b, o + i * 3 + 2, none⟩ = some (.string (l.getD i z37).f2) ∧ (l.getD i z37).f1.length ≤ c1 ∧ Kd.C k59 w A1 (l.getD i z37).f1.length (l.getD i z37).f1 := by
  obtain ⟨ad, A1, c1, hA, h0, h1, h2, hc, hC⟩ := at_T37 h i (by omega) (by omega)
  obtain ⟨ad', _, _, hA', h0', _⟩ := at_T37 h 0 (by omega) (by omega)
  obtain rfl : ad = ad' := by rw [hA] at hA'; exact Option.some.inj hA'
  obtain ⟨b, o, rfl⟩ := addr_plain (show w.cell? (ad.add 0) = _ from h0')
  refine ⟨b, o, A1, c1, hA, ?_, ?_, ?_, hc, hC⟩
  · rw [add_plainO] at h0; exact h0
  · rw [add_plainO] at h1; exact h1
  · rw [add_plainO] at h2; exact h2
theorem tree_at0 {w : World} {A : Option Addr} {l : List S32} (h : Kd.C k32 w A l.length l) (i : Nat) (hi : i < l.length) : ∃ b o A1 c1 A2 c2, A = some ⟨b, o, none⟩ ∧ w.cell? ⟨b, o + i * 3, none⟩ = some (.string (l.getD i z32).f0) ∧ w.cell? ⟨b, o + i * 3 + 1, none⟩ = some (.slice A1 (l.getD i z32).f1.length c1) ∧ w.cell? ⟨b, o + i * 3 + 2, none⟩ = some (.slice A2 (l.getD i z32).f2.length c2) ∧ (l.getD i z32).f1.length ≤ c1 ∧ Kd.C k37 w A1 (l.getD i z32).f1.length (l.getD i z32).f1 ∧ (l.getD i z32).f2.length ≤ c2 ∧ Kd.C k32 w A2 (l.getD i z32).f2.length (l.getD i z32).f2 := by
  obtain ⟨ad, A1, c1, A2, c2, hA, h0, h1, h2, hc, hC, hd, hD⟩ := at_T32 h i (by omega) (by omega)
  obtain ⟨ad', _, _, _, _, hA', h0', _⟩ := at_T32 h 0 (by omega) (by omega)
  obtain rfl : ad = ad' := by rw [hA] at hA'; exact Option.some.inj hA'
  obtain ⟨b, o, rfl⟩ := addr_plain (show w.cell? (ad.add 0) = _ from h0')
  refine ⟨b, o, A1, c1, A2, c2, hA, ?_, ?_, ?_, hc, hC, hd, hD⟩
  · rw [add_plainO] at h0; exact h0
  · rw [add_plainO] at h1; exact h1
  · rw [add_plainO] at h2; exact h2
def eqLn (p q : S37) : Bool := eqL p.f0 p.f1 p.f2 q.f0 q.f1 q.f2
def eqLns : List S37 → List S37 → Bool
  | [], [] => true
  | p :: s, q :: t => eqLn p q && eqLns s t
  | _, _ => false
theorem eqLns_len : ∀ (a b : List S37), a.length ≠ b.length → eqLns a b = false
  | [], [], h => absurd rfl h
  | [], _ :: _, _ => rfl
  | _ :: _, [], _ => rfl
  | _ :: s, _ :: t, h => by
    unfold eqLns
    rw [eqLns_len s t (fun e => h (by simp [e])), Bool.and_false]
theorem eqLns_at (a b : List S37) (i : Nat) (ha : i < a.length) (hb : i < b.length) : eqLns (a.drop i) (b.drop i) = (eqLn (a.getD i z37) (b.getD i z37) && eqLns (a.drop (i + 1)) (b.drop (i + 1))) := by
  rw [List.drop_eq_getElem_cons ha, List.drop_eq_getElem_cons hb, List.getD_eq_getElem?_getD, List.getD_eq_getElem?_getD, List.getElem?_eq_getElem ha, List.getElem?_eq_getElem hb]
  rfl
mutual
def eqT : S32 → S32 → Bool
  | ⟨n, l, k⟩, ⟨m, o, j⟩ => decide (n = m) && (eqLns l o && eqTs k j)
def eqTs : List S32 → List S32 → Bool
  | [], [] => true
  | p :: s, q :: t => eqT p q && eqTs s t
  | [], _ :: _ => false
  | _ :: _, [] => false
end
theorem eqTs_len : ∀ (a b : List S32), a.length ≠ b.length → eqTs a b = false
  | [], [], h => absurd rfl h
  | [], _ :: _, _ => by simp [eqTs]
  | _ :: _, [], _ => by simp [eqTs]
  | _ :: s, _ :: t, h => by
    simp only [eqTs]
    rw [eqTs_len s t (fun e => h (by simp [e])), Bool.and_false]
theorem eqTs_at (a b : List S32) (i : Nat) (ha : i < a.length) (hb : i < b.length) : eqTs (a.drop i) (b.drop i) = (eqT (a.getD i z32) (b.getD i z32) && eqTs (a.drop (i + 1)) (b.drop (i + 1))) := by
  rw [List.drop_eq_getElem_cons ha, List.drop_eq_getElem_cons hb, List.getD_eq_getElem?_getD, List.getD_eq_getElem?_getD, List.getElem?_eq_getElem ha, List.getElem?_eq_getElem hb]
  simp only [eqTs]; rfl
theorem blkO (w : World) (o o' : Obj) : ((w.alloc o).alloc o').heap[w.heap.size]? = some o := by
  rw [Below.heap_alloc _ _ _ (by simp)]; exact heap_alloc_new w o
theorem blkO2 (w : World) (o o' : Obj) : ((w.alloc o).alloc o').heap[w.heap.size + 1]? = some o' := by
  have := heap_alloc_new (w.alloc o) o'
  simpa using this
theorem cellO {w : World} {g : Nat} {cs : Array Value} {t : TypeId} {fr : Nat × Nat} (h : w.heap[g]? = some (.cells cs t fr)) (j : Nat) : w.cell? ⟨g, j, none⟩ = cs[j]? := by simp [World.cell?, h]
set_option maxHeartbeats 4000000 in
set_option maxRecDepth 100000 in
theorem eqLns_walk (A0 : Option Addr) (c0 : Nat) (l0 : List S37) (A1 : Option Addr) (c1 : Nat) (l1 : List S37) (w : World) (hG : GG w) (h0 : Kd.C k37 w A0 l0.length l0) (h1 : Kd.C k37 w A1 l1.length l1) :
    Calls Tryd.prog 16 #[.slice A0 l0.length c0, .slice A1 l1.length c1, .func (.func 10) #[] #[]] w fun e w' => e = .returned (.bool (eqLns l0 l1)) ∧ Below w.heap.size w w' := by
  have hm := h0.2.1
  have H0 := Aside0.mk h0
  have H1 := Aside0.mk h1
  have HGG := Aside0.mk hG
  clear h0 h1 hG
  by_cases hl : l0.length = l1.length
  · obtain ⟨n, hn⟩ : ∃ n, n = l0.length := ⟨_, rfl⟩
    have hn1 : n = l1.length := by omega
    have HN := Aside0.mk hn
    have HN1 := Aside0.mk hn1
    rw [← hn] at hm ⊢
    rw [← hn1]
    clear hl hn hn1
    have hnot : ∀ (x : Bool) (w : World), (Op.unary .not (.bool x)).run Tryd.prog w = .ok (.bool (!x)) w := fun _ _ => rfl
    go_enter Tryd.func16, Tryd.ntmps16
    go_wp2_with fail
    go_loopg [7, 8, 9, 17] n (fun g v7 v8 v9 v17 wr => ∃ i : Nat, v17 = .int .i64 i ∧ i ≤ n ∧ Aside0 (n ≤ i + g) ∧ Aside0 (Below w.heap.size w wr) ∧ Aside0 (eqLns l0 l1 = eqLns (l0.drop i) (l1.drop i)))
    case atStart => exact ⟨0, rfl, by omega, ⟨by omega⟩, ⟨Below.refl _ _⟩, ⟨rfl⟩⟩
    case round =>
      obtain ⟨i, rfl, hi, HG, HB, HE⟩ := hrel
      by_cases hlt : i < n
      · cases gk with
        | zero => exfalso; have := HG.out; omega
        | succ g =>
        obtain ⟨b0, o0, A2, c2, e0, p0, p1, p2, hc2, hC2⟩ := line_at0 (Kd.C_below H0.out HB.out) i (by have := HN.out; omega)
        obtain ⟨b1, o1, A3, c3, e1, q0, q1, q2, hc3, hC3⟩ := line_at0 (Kd.C_below H1.out HB.out) i (by have := HN1.out; omega)
        subst e0 e1
        have hE := eqLns_at l0 l1 i (by have := HN.out; omega) (by have := HN1.out; omega)
        obtain ⟨p, hp⟩ : ∃ p, p = l0.getD i z37 := ⟨_, rfl⟩
        obtain ⟨q, hq⟩ : ∃ q, q = l1.getD i z37 := ⟨_, rfl⟩
        rw [← hp] at p0 p1 p2 hc2 hC2 hE
        rw [← hq] at q0 q1 q2 hc3 hC3 hE
        have HX := Aside0.mk (And.intro hC2 (And.intro hC3 hE))
        have HCC := Aside0.mk (And.intro hc2 hc3)
        have hb0 := cellLt0 p0
        have hb1 := cellLt0 q0
        clear hC2 hC3 hc2 hc3 hp hq hE
        obtain ⟨r, hr⟩ : ∃ r, r = eqLn p q := ⟨_, rfl⟩
        rw [← hr] at HX
        have HR := Aside0.mk hr
        clear hr
        go_wp2_with fail
        go_at_call 10
        refine (line_Equal.calls p.f0 A2 c2 p.f1 p.f2 q.f0 A3 c3 q.f1 q.f2 r _ (by first | exact HGG.out.below (by repeat (first | exact HB.out | apply below_alloc)) | exact GG.below HGG.out (by repeat (first | exact HB.out | apply below_alloc))) (Kd.C_below HX.out.1 (by repeat (first | exact Below.refl _ _ | apply below_alloc))) HCC.out.1 (Kd.C_below HX.out.2.1 (by repeat (first | exact Below.refl _ _ | apply below_alloc))) HCC.out.2 (by rw [HR.out]; rfl)).mono ?_
        rintro e w2 ⟨rfl, hB⟩
        have HB2 := Aside0.mk (HB.out.trans (((show Below wr.heap.size wr _ by repeat (first | exact Below.refl _ _ | apply below_alloc)).trans (hB.mono (by simp <;> omega))).mono HB.out.size))
        clear hB
        cases r with
        | true =>
          go_wp2_with fail
          go_roundg g
          case measure => have := HG.out; omega
          case rel => exact ⟨i + 1, by first | rfl | (go_num; done), by omega, ⟨by have := HG.out; omega⟩, HB2, ⟨by rw [HE.out, HX.out.2.2, Bool.true_and]⟩⟩
        | false =>
          go_wp2_with fail
          go_ret
          exact ⟨by rw [HE.out, HX.out.2.2, Bool.false_and]; rfl, HB2.out⟩
      · have hin : i = n := by omega
        subst hin
        go_wp2_with fail
        go_ret
        refine ⟨?_, HB.out⟩
        rw [HE.out, List.drop_eq_nil_of_le (by have := HN.out; omega), List.drop_eq_nil_of_le (by have := HN1.out; omega)]
        rfl
  · have he := eqLns_len l0 l1 hl
    have HE := Aside0.mk he
    clear he
    have hl1 : decide ((l0.length : Int) = (l1.length : Int)) = false := decide_eq_false (by omega)
    have hl2 : ¬ (l0.length : Int) = (l1.length : Int) := by omega
    go_enter Tryd.func16, Tryd.ntmps16
    go_wp2_with fail
    go_ret
    exact ⟨by rw [HE.out]; rfl, Below.refl _ _⟩
/-- What is to be shown of two trees. -/
def EqTW (p q : S32) : Prop := ∀ (A1 : Option Addr) (c1 : Nat) (A2 : Option Addr) (c2 : Nat) (B1 : Option Addr) (d1 : Nat) (B2 : Option Addr) (d2 : Nat) (w : World), GG w → Kd.C k37 w A1 p.f1.length p.f1 → p.f1.length ≤ c1 → Kd.C k32 w A2 p.f2.length p.f2 → p.f2.length ≤ c2 → Kd.C k37 w B1 q.f1.length q.f1 → q.f1.length ≤ d1 → Kd.C k32 w B2 q.f2.length q.f2 → q.f2.length ≤ d2 →
    Calls Tryd.prog 6 #[.agg #[.string p.f0, .slice A1 p.f1.length c1, .slice A2 p.f2.length c2], .agg #[.string q.f0, .slice B1 q.f1.length d1, .slice B2 q.f2.length d2]] w fun e w' => e = .returned (.bool (eqT p q)) ∧ Below w.heap.size w w'
set_option maxHeartbeats 4000000 in
set_option maxRecDepth 100000 in
theorem eqTs_walk (N : Nat) (ih : ∀ p q : S32, SizeOf.sizeOf p < N → EqTW p q) (A0 : Option Addr) (c0 : Nat) (l0 : List S32) (A1 : Option Addr) (c1 : Nat) (l1 : List S32) (w : World) (hN : ∀ p ∈ l0, SizeOf.sizeOf p < N) (hG : GG w) (h0 : Kd.C k32 w A0 l0.length l0) (h1 : Kd.C k32 w A1 l1.length l1) :
    Calls Tryd.prog 17 #[.slice A0 l0.length c0, .slice A1 l1.length c1, .func (.func 6) #[] #[]] w fun e w' => e = .returned (.bool (eqTs l0 l1)) ∧ Below w.heap.size w w' := by
  have hm := h0.2.1
  have H0 := Aside0.mk h0
  have H1 := Aside0.mk h1
  have HGG := Aside0.mk hG
  have HIH := Aside0.mk ih
  have HNN := Aside0.mk hN
  clear h0 h1 hG ih hN
  by_cases hl : l0.length = l1.length
  · obtain ⟨n, hn⟩ : ∃ n, n = l0.length := ⟨_, rfl⟩
    have hn1 : n = l1.length := by omega
    have HN := Aside0.mk hn
    have HN1 := Aside0.mk hn1
    rw [← hn] at hm ⊢
    rw [← hn1]
    clear hl hn hn1
    have hnot : ∀ (x : Bool) (w : World), (Op.unary .not (.bool x)).run Tryd.prog w = .ok (.bool (!x)) w := fun _ _ => rfl
    go_enter Tryd.func17, Tryd.ntmps17
    go_wp2_with fail
    go_loopg [7, 8, 9, 17] n (fun g v7 v8 v9 v17 wr => ∃ i : Nat, v17 = .int .i64 i ∧ i ≤ n ∧ Aside0 (n ≤ i + g) ∧ Aside0 (Below w.heap.size w wr) ∧ Aside0 (eqTs l0 l1 = eqTs (l0.drop i) (l1.drop i)))
    case atStart => exact ⟨0, rfl, by omega, ⟨by omega⟩, ⟨Below.refl _ _⟩, ⟨rfl⟩⟩
    case round =>
      obtain ⟨i, rfl, hi, HG, HB, HE⟩ := hrel
      by_cases hlt : i < n
      · cases gk with
        | zero => exfalso; have := HG.out; omega
        | succ g =>
        obtain ⟨b0, o0, A2, c2, A4, c4, e0, p0, p1, p2, hc2, hC2, hc4, hC4⟩ := tree_at0 (Kd.C_below H0.out HB.out) i (by have := HN.out; omega)
        obtain ⟨b1, o1, A3, c3, A5, c5, e1, q0, q1, q2, hc3, hC3, hc5, hC5⟩ := tree_at0 (Kd.C_below H1.out HB.out) i (by have := HN1.out; omega)
        subst e0 e1
        have hE := eqTs_at l0 l1 i (by have := HN.out; omega) (by have := HN1.out; omega)
        obtain ⟨p, hp⟩ : ∃ p, p = l0.getD i z32 := ⟨_, rfl⟩
        obtain ⟨q, hq⟩ : ∃ q, q = l1.getD i z32 := ⟨_, rfl⟩
        have HM := Aside0.mk (HIH.out (l0.getD i z32) (l1.getD i z32) (HNN.out _ (by rw [List.getD_eq_getElem?_getD, List.getElem?_eq_getElem (show i < l0.length by have := HN.out; omega)]; exact List.getElem_mem _)))
        rw [← hp] at p0 p1 p2 hc2 hC2 hc4 hC4 hE HM
        rw [← hq] at q0 q1 q2 hc3 hC3 hc5 hC5 hE HM
        have HX := Aside0.mk (And.intro hC2 (And.intro hC3 hE))
        have HCC := Aside0.mk (And.intro hc2 (And.intro hc3 (And.intro hc4 hc5)))
        have HXK := Aside0.mk (And.intro hC4 hC5)
        have hb0 := cellLt0 p0
        have hb1 := cellLt0 q0
        clear hC2 hC3 hc2 hc3 hC4 hC5 hc4 hc5 hp hq hE
        obtain ⟨r, hr⟩ : ∃ r, r = eqT p q := ⟨_, rfl⟩
        rw [← hr] at HX
        have HR := Aside0.mk hr
        clear hr
        go_wp2_with fail
        go_at_call 6
        refine (HM.out A2 c2 A4 c4 A3 c3 A5 c5 _ (GG.below HGG.out (by repeat (first | exact HB.out | apply below_alloc))) (Kd.C_below HX.out.1 (by repeat (first | exact Below.refl _ _ | apply below_alloc))) HCC.out.1 (Kd.C_below HXK.out.1 (by repeat (first | exact Below.refl _ _ | apply below_alloc))) HCC.out.2.2.1 (Kd.C_below HX.out.2.1 (by repeat (first | exact Below.refl _ _ | apply below_alloc))) HCC.out.2.1 (Kd.C_below HXK.out.2 (by repeat (first | exact Below.refl _ _ | apply below_alloc))) HCC.out.2.2.2).mono ?_
        rw [← HR.out]
        rintro e w2 ⟨rfl, hB⟩
        have HB2 := Aside0.mk (HB.out.trans (((show Below wr.heap.size wr _ by repeat (first | exact Below.refl _ _ | apply below_alloc)).trans (hB.mono (by simp <;> omega))).mono HB.out.size))
        clear hB
        cases r with
        | true =>
          go_wp2_with fail
          go_roundg g
          case measure => have := HG.out; omega
          case rel => exact ⟨i + 1, by first | rfl | (go_num; done), by omega, ⟨by have := HG.out; omega⟩, HB2, ⟨by rw [HE.out, HX.out.2.2, Bool.true_and]⟩⟩
        | false =>
          go_wp2_with fail
          go_ret
          exact ⟨by rw [HE.out, HX.out.2.2, Bool.false_and]; rfl, HB2.out⟩
      · have hin : i = n := by omega
        subst hin
        go_wp2_with fail
        go_ret
        refine ⟨?_, HB.out⟩
        rw [HE.out, List.drop_eq_nil_of_le (by have := HN.out; omega), List.drop_eq_nil_of_le (by have := HN1.out; omega)]
        rfl
  · have he := eqTs_len l0 l1 hl
    have HE := Aside0.mk he
    clear he
    have hl1 : decide ((l0.length : Int) = (l1.length : Int)) = false := decide_eq_false (by omega)
    have hl2 : ¬ (l0.length : Int) = (l1.length : Int) := by omega
    go_enter Tryd.func17, Tryd.ntmps17
    go_wp2_with fail
    go_ret
    exact ⟨by rw [HE.out]; rfl, Below.refl _ _⟩
theorem eqT_walk : ∀ (N : Nat) (p q : S32), SizeOf.sizeOf p < N → EqTW p q := by
  intro N
  induction N with
  | zero => intro p q h; omega
  | succ N ih =>
    intro p q h A1 c1 A2 c2 B1 d1 B2 d2 w hG hC1 hc1 hC2 hc2 hD1 hd1 hD2 hd2
    obtain ⟨n, l, k⟩ := p
    obtain ⟨m, o, j⟩ := q
    have HIH := Aside0.mk ih
    have HNN : Aside0 (∀ p ∈ k, SizeOf.sizeOf p < N) := ⟨fun p hp => by have h1 := List.sizeOf_lt_of_mem hp; simp at h; omega⟩
    dsimp only at hC1 hc1 hC2 hc2 hD1 hd1 hD2 hd2 ⊢
    have HC := Aside0.mk (And.intro hC1 (And.intro hC2 (And.intro hD1 hD2)))
    have HGG := Aside0.mk hG
    have hT : eqT ⟨n, l, k⟩ ⟨m, o, j⟩ = (decide (n = m) && (eqLns l o && eqTs k j)) := by simp [eqT]
    rw [hT]
    clear hC1 hC2 hD1 hD2 hc1 hc2 hd1 hd2 ih h hG hT
    by_cases hn : n = m
    · subst hn
      have hb : (n.toList == n.toList) = true := beq_self_eq_true _
      rw [decide_eq_true rfl, Bool.true_and]
      obtain ⟨r, hr⟩ : ∃ r, r = eqLns l o := ⟨_, rfl⟩
      obtain ⟨r2, hr2⟩ : ∃ r2, r2 = eqTs k j := ⟨_, rfl⟩
      rw [← hr, ← hr2]
      have HR := Aside0.mk hr
      have HR2 := Aside0.mk hr2
      clear hr hr2
      go_enter Tryd.func6, Tryd.ntmps6
      go_wp2_with fail
      go_at_call 16
      refine (eqLns_walk A1 c1 l B1 d1 o _ (GG.below HGG.out (by repeat (first | exact Below.refl _ _ | apply below_alloc))) (Kd.C_below HC.out.1 (by repeat (first | exact Below.refl _ _ | apply below_alloc))) (Kd.C_below HC.out.2.2.1 (by repeat (first | exact Below.refl _ _ | apply below_alloc)))).mono ?_
      rw [← HR.out]
      rintro e w2 ⟨rfl, hB⟩
      have HB := Aside0.mk ((show Below w.heap.size w _ by repeat (first | exact Below.refl _ _ | apply below_alloc)).trans (hB.mono (by simp <;> omega)))
      have hx := (hB.block w.heap.size (by first | (simp; done) | (simp; omega))).trans (blkO w _ _)
      have hy := (hB.block (w.heap.size + 1) (by first | (simp; done) | (simp; omega))).trans (blkO2 w _ _)
      have x2 := cellO hx 2
      have y2 := cellO hy 2
      clear hB hx hy
      cases r with
      | false =>
        go_wp2_with fail
        go_ret
        exact ⟨rfl, HB.out⟩
      | true =>
        go_wp2_with fail
        go_at_call 17
        refine (eqTs_walk N HIH.out A2 c2 k B2 d2 j _ HNN.out (GG.below HGG.out HB.out) (Kd.C_below HC.out.2.1 HB.out) (Kd.C_below HC.out.2.2.2 HB.out)).mono ?_
        rw [← HR2.out]
        rintro e w3 ⟨rfl, hB⟩
        have HB3 := Aside0.mk (HB.out.trans (hB.mono HB.out.size))
        clear hB
        go_wp2_with fail
        go_ret
        exact ⟨by rw [Bool.true_and]; rfl, HB3.out⟩
    · have hb2 : ¬ n.toList = m.toList := fun h => hn (ba_toList h)
      have hb : (n.toList == m.toList) = false := by rw [beq_eq_false_iff_ne]; exact hb2
      rw [decide_eq_false hn, Bool.false_and]
      go_enter Tryd.func6, Tryd.ntmps6
      go_wp2_with fail
      go_ret
      exact ⟨rfl, by repeat (first | exact Below.refl _ _ | apply below_alloc)⟩
def tree_Equal.f (a0_0 : ByteArray) (l0_1 : List S37) (l0_2 : List S32) (a1_0 : ByteArray) (l1_1 : List S37) (l1_2 : List S32) : Option Bool := some (eqT ⟨a0_0, l0_1, l0_2⟩ ⟨a1_0, l1_1, l1_2⟩)
theorem tree_Equal.calls (a0_0 : ByteArray) (A0_1 : Option Addr) (c0_1 : Nat) (l0_1 : List S37) (A0_2 : Option Addr) (c0_2 : Nat) (l0_2 : List S32) (a1_0 : ByteArray) (A1_1 : Option Addr) (c1_1 : Nat) (l1_1 : List S37) (A1_2 : Option Addr) (c1_2 : Nat) (l1_2 : List S32) (r : Bool) (w : World) (hG : GG w) (hr0_1 : Kd.C k37 w A0_1 l0_1.length l0_1) (hc0_1 : l0_1.length ≤ c0_1) (hr0_2 : Kd.C k32 w A0_2 l0_2.length l0_2) (hc0_2 : l0_2.length ≤ c0_2) (hr1_1 : Kd.C k37 w A1_1 l1_1.length l1_1) (hc1_1 : l1_1.length ≤ c1_1) (hr1_2 : Kd.C k32 w A1_2 l1_2.length l1_2) (hc1_2 : l1_2.length ≤ c1_2) (h : tree_Equal.f a0_0 l0_1 l0_2 a1_0 l1_1 l1_2 = some r) :
    Calls Tryd.prog 6 #[.agg #[.string a0_0, .slice A0_1 l0_1.length c0_1, .slice A0_2 l0_2.length c0_2], .agg #[.string a1_0, .slice A1_1 l1_1.length c1_1, .slice A1_2 l1_2.length c1_2]] w fun e w' => e = .returned (.bool r) ∧ Below w.heap.size w w' := by
  obtain rfl := Option.some.inj h
  exact eqT_walk _ _ _ (Nat.lt_succ_self _) A0_1 c0_1 A0_2 c0_2 A1_1 c1_1 A1_2 c1_2 w hG hr0_1 hc0_1 hr0_2 hc0_2 hr1_1 hc1_1 hr1_2 hc1_2
end Go.Proofs.YtdojmdbaiddkgaaDoor.Print
end
section
namespace Go.Proofs.YtdojmdbaiddkgaaDoor.Print
open Go.RowKit Go.Proofs.YtdojmdbaiddkgaaDoorW.PrintWords Go.Proofs.YtdojmdbaiddkgaaDoorW.PrintLast Go.Proofs.YtdojmdbaiddkgaaDoorW.PrintMore
set_option linter.unusedVariables false
set_option linter.unusedSimpArgs false
mutual
def trystlaw11_Theirs.l0 : Nat → Int → Int → ByteArray → List (S42) → List (S25) → ByteArray → List (S37) → Option (ByteArray × (List (S37)) × (List (S32)))
 | 0, _, _, _, _, _, _, _ => none
 | k + 1, x11, x12, x172000, x172001, x172002, x174000, x174001 => if x12 < x11 then (if 0 ≤ x12 then (if x12 < (x172001.length : Int) then ((trystlaw10_Theirs.f k ((rd_T42 x172001 x12).f0) ((rd_T42 x172001 x12).f1) ((rd_T42 x172001 x12).f2)).bind fun bt175 => (if x174001.length < 2513169434916 then (trystlaw11_Theirs.l0 k x11 (wrap64 (x12 + 1)) x172000 x172001 x172002 x174000 (x174001 ++ [(⟨bt175.1, bt175.2.1, bt175.2.2⟩ : S37)])) else (none))) else (none)) else (none)) else (trystlaw11_Theirs.l1 k (x172002.length : Int) 0 x172000 x172001 x172002 x174000 x174001 ([] : List (S32)))
def trystlaw11_Theirs.l1 : Nat → Int → Int → ByteArray → List (S42) → List (S25) → ByteArray → List (S37) → List (S32) → Option (ByteArray × (List (S37)) × (List (S32)))
 | 0, _, _, _, _, _, _, _, _ => none
 | k + 1, x29, x30, x172000, x172001, x172002, x174000, x174001, x174002 => if x30 < x29 then (if 0 ≤ x30 then (if x30 < (x172002.length : Int) then ((trystlaw11_Theirs.f k ((rd_T25 x172002 x30).f0) ((rd_T25 x172002 x30).f1) ((rd_T25 x172002 x30).f2)).bind fun bt184 => (if x174002.length < 2199023255552 then (trystlaw11_Theirs.l1 k x29 (wrap64 (x30 + 1)) x172000 x172001 x172002 x174000 x174001 (x174002 ++ [(⟨bt184.1, bt184.2.1, bt184.2.2⟩ : S32)])) else (none))) else (none)) else (none)) else (some (x174000, x174001, x174002))
def trystlaw11_Theirs.f : Nat → ByteArray → List (S42) → List (S25) → Option (ByteArray × (List (S37)) × (List (S32)))
 | 0, _, _, _ => none
 | k + 1, a0_0, l0_1, l0_2 => trystlaw11_Theirs.l0 k (l0_1.length : Int) 0 a0_0 l0_1 l0_2 a0_0 ([] : List (S37))
end
def trystlaw11_Theirs.T5 : Bool × List (List Nat × List Nat) := (true, [([], []), ([0], [0]), ([], []), ([2], [2]), ([], []), ([3, 4], [3, 4]), ([5], [5]), ([6], [6]), ([7], [7]), ([1, 8, 7], [1, 8]), ([0, 1, 2, 3, 4, 5, 6, 7, 8, 9], []), ([10, 9, 9, 0, 1, 2, 3, 4, 5, 6, 7, 8, 9], [9, 10])])
def trystlaw11_Theirs.B5 : List Nat := [0, 1, 0, 4, 0, 28, 60, 124, 252, 511, 1023, 2047]
theorem trystlaw11_Theirs.tab5 : rtab .any (opsOf Tryd.f7 5) = trystlaw11_Theirs.T5 := by kernel_rfl
theorem trystlaw11_Theirs.bits5 : waitsOk trystlaw11_Theirs.T5.2 trystlaw11_Theirs.B5 = true := by kernel_rfl
def trystlaw11_Theirs.T10 : Bool × List (List Nat × List Nat) := (true, [([], []), ([0], [0]), ([], []), ([2], [2]), ([], []), ([3, 4], [3, 4]), ([5], [5]), ([6], [6]), ([7], [7]), ([1, 8, 7], [1, 8]), ([0, 1, 2, 3, 4, 5, 6, 7, 8, 9], []), ([10, 9, 9, 0, 1, 2, 3, 4, 5, 6, 7, 8, 9], [9, 10])])
def trystlaw11_Theirs.B10 : List Nat := [0, 1, 0, 4, 0, 28, 60, 124, 252, 511, 1023, 2047]
theorem trystlaw11_Theirs.tab10 : rtab .any (opsOf Tryd.f7 10) = trystlaw11_Theirs.T10 := by kernel_rfl
theorem trystlaw11_Theirs.bits10 : waitsOk trystlaw11_Theirs.T10.2 trystlaw11_Theirs.B10 = true := by kernel_rfl
set_option maxHeartbeats 8000000 in
set_option maxRecDepth 100000 in
theorem trystlaw11_Theirs.calls (k : Nat) : ∀ (a0_0 : ByteArray) (A0_1 : Option Addr) (c0_1 : Nat) (l0_1 : List (S42)) (A0_2 : Option Addr) (c0_2 : Nat) (l0_2 : List (S25)) (r1 : ByteArray) (r2 : List (S37)) (r3 : List (S32)) (w : World) (hG : GG w) (hr0_1 : Kd.C k42 w A0_1 l0_1.length l0_1) (hc0_1 : l0_1.length ≤ c0_1) (hr0_2 : Kd.C k25 w A0_2 l0_2.length l0_2) (hc0_2 : l0_2.length ≤ c0_2) (h : trystlaw11_Theirs.f k a0_0 l0_1 l0_2 = some (r1, r2, r3)),
  Calls Tryd.prog 7 #[.agg #[.string a0_0, .slice A0_1 l0_1.length c0_1, .slice A0_2 l0_2.length c0_2]] w fun e w' => ∃ v1_ v2_ : Value, e = .returned (.agg #[.string r1, v1_, v2_]) ∧ Kd.R k37 37 w' w.heap.size (fun _ => True) v1_ r2 ∧ Kd.R k32 32 w' w.heap.size (fun k_ => some k_ ≠ (v1_ : Value).ownBlock) v2_ r3 ∧ Below w.heap.size w w' := by
 induction k using Nat.strongRecOn with
 | _ k ih =>
 intro a0_0 A0_1 c0_1 l0_1 A0_2 c0_2 l0_2 r1 r2 r3 w hG hr0_1 hc0_1 hr0_2 hc0_2 h
 cases k with
 | zero => exact absurd h (by simp [trystlaw11_Theirs.f])
 | succ k =>
 simp only [trystlaw11_Theirs.f] at h; have hu25 := Tryd.underlying25; have hu32 := Tryd.underlying32; have hu42 := Tryd.underlying42; have HR0_1 := Aside0.mk hr0_1; have HC0_1 := Aside0.mk hc0_1; clear hr0_1 hc0_1; have HR0_2 := Aside0.mk hr0_2; have HC0_2 := Aside0.mk hc0_2; clear hr0_2 hc0_2; have HB := Aside0.mk (Below.refl w.heap.size w); have H : (trystlaw11_Theirs.l0 k (l0_1.length : Int) 0 a0_0 l0_1 l0_2 a0_0 ([] : List (S37))) = some (r1, r2, r3) := h; clear h; have H' := Aside0.mk H; clear H
 go_enter Tryd.func7, Tryd.ntmps7
 go_wp2_with (first | ((with_reducible refine gate_dst (N := 1) rfl ?_); refine zbox (N := 1) #[.string a0_0, .slice A0_1 l0_1.length c0_1, .slice A0_2 l0_2.length c0_2] 25 (fun gb171 hg w2 hbox hb => ?_); have n0_ := zw hb; have n1_ := Aside0.mk hbox; have n2_ := zg w hg; have n3_ := zg w hg; clear HB; have HB := n0_; have BK171 := n1_; have GW171 := n2_; have GE171 := n3_; clear n0_ n1_ n2_ n3_; clear hb hbox hg) | ((with_reducible refine gate_dst (N := 2) rfl ?_); refine zbox (N := 2) #[.string (⟨#[]⟩ : ByteArray), .slice none 0 0, .slice none 0 0] 32 (fun gb172 hg w3 hbox hb => ?_); replace BK172 := Aside0.mk hbox; replace GW172 := zg w hg; replace GE172 := zg w hg; replace HB := zw hb; replace NB171_172 := zn BK171 hg; replace NB172_171 := zm BK171 hg; replace BK171 := zb BK171 hb; clear hb hbox hg; have hnb4 := NB171_172.out; have hnc4 := NB172_171.out; have hcz5_0 := zc0 BK171; have hcz5_1 := zc1 BK171; have hcz5_2 := zc2 BK171; have hfz5_0 := zf BK171 0; have hfz5_1 := zf BK171 1; have hfz5_2 := zf BK171 2) | ((with_reducible refine gate_dst (N := 3) rfl ?_); refine zbox (N := 3) #[.string (⟨#[]⟩ : ByteArray), .slice none 0 0, .slice none 0 0] 32 (fun gb173 hg w6 hbox hb => ?_); replace BK173 := Aside0.mk hbox; replace GW173 := zg w hg; replace GE173 := zg w hg; replace HB := zw hb; replace NB171_173 := zn BK171 hg; replace NB173_171 := zm BK171 hg; replace BK171 := zb BK171 hb; replace NB172_173 := zn BK172 hg; replace NB173_172 := zm BK172 hg; replace BK172 := zb BK172 hb; clear hb hbox hg; have hnb7 := NB173_171.out; have hnc7 := NB171_173.out; have hnb8 := NB173_172.out; have hnc8 := NB172_173.out; have hcz9_0 := zc0 BK173; have hcz9_1 := zc1 BK173; have hcz9_2 := zc2 BK173; have hfz9_0 := zf BK173 0; have hfz9_1 := zf BK173 1; have hfz9_2 := zf BK173 2; have hcz10_0 := zc0 BK171; have hcz10_1 := zc1 BK171; have hcz10_2 := zc2 BK171; have hfz10_0 := zf BK171 0; have hfz10_1 := zf BK171 1; have hfz10_2 := zf BK171 2))
 go_loopg [12] k (fun kq v12 w' => ∃ (x12_1 : Int) (x174001_1 : List (S37)) (u174001 : Value), v12 = .int .i64 x12_1 ∧ Aside0 (trystlaw11_Theirs.l0 kq (l0_1.length : Int) x12_1 a0_0 l0_1 l0_2 a0_0 x174001_1 = some (r1, r2, r3)) ∧ Aside0 (kq ≤ k) ∧ Aside0 (Kd.R k37 37 w' w.heap.size (fun _ => True) u174001 x174001_1) ∧ Aside0 (w'.heap[gb171]? = some (.cells #[.string a0_0, (.slice A0_1 l0_1.length c0_1), (.slice A0_2 l0_2.length c0_2)] 25 (0, 0))) ∧ Aside0 (w'.heap[gb172]? = some (.cells #[.string (⟨#[]⟩ : ByteArray), (.slice none 0 0), (.slice none 0 0)] 32 (0, 0))) ∧ Aside0 (w'.heap[gb173]? = some (.cells #[.string a0_0, u174001, (.slice none 0 0)] 32 (0, 0))) ∧ Aside0 (Below w.heap.size w w'))
 case atStart => exact ⟨(0), (([] : List (S37))), (.slice none 0 0), zS, H', ⟨Nat.le_refl _⟩, ⟨by first | exact Kd.R_nil _ _ _ _ _ | exact Kd.N_nil _ _ _ _ _ | exact Kd.V_nil _ _ _ _ _ | exact Kd.Q_nil _ _ _ _ _ | exact Kd.S_nil _ _ _ _ _⟩, ⟨by (with_reducible repeat (first | refine blk_drewN ?_ _ | refine blk_drew ?_ | refine blk_alloc ?_ _)); refine blk_far ?_ NB171_173.out _; (with_reducible repeat (first | refine blk_drewN ?_ _ | refine blk_drew ?_ | refine blk_alloc ?_ _)); refine blk_far ?_ NB171_173.out _; (with_reducible repeat (first | refine blk_drewN ?_ _ | refine blk_drew ?_ | refine blk_alloc ?_ _)); refine blk_far ?_ NB171_173.out _; (with_reducible repeat (first | refine blk_drewN ?_ _ | refine blk_drew ?_ | refine blk_alloc ?_ _)); exact BK171.out⟩, ⟨by (with_reducible repeat (first | refine blk_drewN ?_ _ | refine blk_drew ?_ | refine blk_alloc ?_ _)); refine blk_far ?_ NB172_173.out _; (with_reducible repeat (first | refine blk_drewN ?_ _ | refine blk_drew ?_ | refine blk_alloc ?_ _)); refine blk_far ?_ NB172_173.out _; (with_reducible repeat (first | refine blk_drewN ?_ _ | refine blk_drew ?_ | refine blk_alloc ?_ _)); refine blk_far ?_ NB172_173.out _; (with_reducible repeat (first | refine blk_drewN ?_ _ | refine blk_drew ?_ | refine blk_alloc ?_ _)); exact BK172.out⟩, ⟨by (with_reducible repeat (first | refine blk_drewN ?_ _ | refine blk_drew ?_ | refine blk_alloc ?_ _)); refine blk_put (cs := #[.string a0_0, .slice none 0 0, .slice none 0 0]) ?_ 2 _ rfl; (with_reducible repeat (first | refine blk_drewN ?_ _ | refine blk_drew ?_ | refine blk_alloc ?_ _)); refine blk_put (cs := #[.string a0_0, .slice none 0 0, .slice none 0 0]) ?_ 1 _ rfl; (with_reducible repeat (first | refine blk_drewN ?_ _ | refine blk_drew ?_ | refine blk_alloc ?_ _)); refine blk_put (cs := #[.string (⟨#[]⟩ : ByteArray), .slice none 0 0, .slice none 0 0]) ?_ 0 _ rfl; (with_reducible repeat (first | refine blk_drewN ?_ _ | refine blk_drew ?_ | refine blk_alloc ?_ _)); exact BK173.out⟩, ⟨zB⟩⟩
 case round =>
  clear H'; clear hcz10_0 hcz10_1 hcz10_2 hcz5_0 hcz5_1 hcz5_2 hcz9_0 hcz9_1 hcz9_2 hfz10_0 hfz10_1 hfz10_2 hfz5_0 hfz5_1 hfz5_2 hfz9_0 hfz9_1 hfz9_2; obtain ⟨x12_1, x174001_1, u174001, rfl, HA, HK1, HO_174001, BK171, BK172, BK173, HB⟩ := hrel
  cases gk with
  | zero => exact absurd HA.out (by simp [trystlaw11_Theirs.l0])
  | succ k1 =>
   have H := HA.out; clear HA; simp only [trystlaw11_Theirs.l0] at H; replace H := zId H; rcases H with ⟨-, c11b0, H⟩ | ⟨-, c11b0, H⟩
   ·replace H := zJd H; obtain ⟨-, c12b0, H⟩ := H; replace H := zJd H; obtain ⟨-, c13b0, H⟩ := H; replace H := Option.bind_eq_some_iff.mp H; obtain ⟨⟨t175, t176, t179⟩, A140, H⟩ := H; replace H : (if x174001_1.length < 2513169434916 then (trystlaw11_Theirs.l0 k1 (l0_1.length : Int) (wrap64 (x12_1 + 1)) a0_0 l0_1 l0_2 a0_0 (x174001_1 ++ [(⟨t175, t176, t179⟩ : S37)])) else (none)) = some (r1, r2, r3) := H; have A14 := Aside0.mk A140; clear A140; replace H := zJ H; obtain ⟨c15, H⟩ := H; have LMc15 := Aside0.mk c15; clear c15; obtain ⟨y180, hy180⟩ : ∃ y_ : List (S37), y_ = (x174001_1 ++ [(⟨t175, t176, t179⟩ : S37)]) := ⟨_, rfl⟩
    replace H : (trystlaw11_Theirs.l0 k1 (l0_1.length : Int) (wrap64 (x12_1 + 1)) a0_0 l0_1 l0_2 a0_0 y180) = some (r1, r2, r3) := by first | (rw [hy180]; with_reducible exact H) | (have H2_ := (Option.bind_some _ _).symm.trans H; rw [hy180]; with_reducible exact H2_) | (have H2_ := (Option.bind_some _ _).symm.trans H; with_reducible exact H2_) | with_reducible exact H | (rw [hy180]; exact H) | exact H
    have Ny180 := Aside0.mk hy180; clear hy180; have H' := Aside0.mk H; clear H
    try go_wp2
    replace HO_174001 := Aside0.mk (Kd.R_drew HO_174001.out); replace BK171 := Aside0.mk (blk_drew BK171.out); replace BK172 := Aside0.mk (blk_drew BK172.out); replace BK173 := Aside0.mk (blk_drew BK173.out); replace HB := Aside0.mk (below_drew1 HB.out); have p174 := zQ (0 ≤ (x12_1 : Int)); have q174 := zQ (x12_1 < (l0_1.length : Int)); obtain ⟨ad174, A174_1, c174_1, e174, hx174_0, hx174_1, hx174_2, hl174_1, hi174_1⟩ := at_T42 HR0_1.out x12_1 p174 q174; have hw174_2 := hx174_2; have hw174_1 := hx174_1; have hw174_0 := hx174_0
    cases e174
    replace hx174_0 := zx HB hx174_0; replace hx174_1 := zx HB hx174_1; replace hx174_2 := zx HB hx174_2; have HR174_1 := Aside0.mk hi174_1; have HC174_1 := Aside0.mk hl174_1; clear hi174_1 hl174_1; replace p174 := eq_true p174; replace q174 := eq_true q174
    refine start_ (n := 12) (S := fun w' => w'.cell? ⟨gb173, 0, none⟩ = some (.string a0_0) ∧ w'.cell? ⟨gb173, 1, none⟩ = some (u174001) ∧ w'.cell? ⟨gb173, 2, none⟩ = some (.slice none 0 0) ∧ w'.cell? ⟨gb171, 0, none⟩ = some (.string a0_0) ∧ w'.cell? ⟨gb171, 1, none⟩ = some (.slice (some ad174) l0_1.length c0_1) ∧ w'.cell? ⟨gb171, 2, none⟩ = some (.slice A0_2 l0_2.length c0_2) ∧ w'.cell? (ad174.add ((x12_1).toNat * 3)) = some (.string ((rd_T42 l0_1 x12_1).f0)) ∧ w'.cell? ⟨(ad174.add ((x12_1).toNat * 3)).block, (ad174.add ((x12_1).toNat * 3)).off + 1, none⟩ = some (.slice A174_1 ((rd_T42 l0_1 x12_1).f1).length c174_1) ∧ w'.cell? ⟨(ad174.add ((x12_1).toNat * 3)).block, (ad174.add ((x12_1).toNat * 3)).off + 2, none⟩ = some (.string ((rd_T42 l0_1 x12_1).f2))) (ds := [11]) #[false, false, false, false, false, false, false, false, false, false, false, false] (by kernel_rfl) rfl rfl ⟨(blk_cell BK173.out 0).trans rfl, (blk_cell BK173.out 1).trans rfl, (blk_cell BK173.out 2).trans rfl, (blk_cell BK171.out 0).trans rfl, (blk_cell BK171.out 1).trans rfl, (blk_cell BK171.out 2).trans rfl, (zx HB hw174_0), (zx HB hw174_1), (zx HB hw174_2)⟩ (fun hHeld => ?_); refine with_tabW trystlaw11_Theirs.tab5 trystlaw11_Theirs.bits5 (fun HT_ HW_ => ?_)
    generalize wr.drew = w16 at HO_174001 BK171 BK172 BK173 HB HR174_1 hx174_0 hx174_1 hx174_2 hHeld ⊢; refine pure_ (i := 0) (N := some 15) (v := ?_) (a' := ?_) #[true, false, false, false, false, false, false, false, false, false, false, false] rfl rfl (any_of HT_.out (by kernel_rfl)) (fun _ _ _ h => h) (Or.inl ⟨by rfl, ?_⟩) ?_ ?_; rotate_left
    ·intro w'; go_simp; with_reducible rfl
    rotate_left
    ·simp only [Act.put, List.setIfInBounds_toArray, List.set_cons_zero, List.set_cons_succ, i64_w, i32_w]; rfl
    refine pure_ (i := 2) (N := some 17) (v := ?_) (a' := ?_) #[true, false, true, false, false, false, false, false, false, false, false, false] rfl rfl (any_of HT_.out (by kernel_rfl)) (fun _ _ _ h => h) (Or.inl ⟨by rfl, ?_⟩) ?_ ?_; rotate_left
    ·intro w'; go_simp; with_reducible rfl
    rotate_left
    ·simp only [Act.put, List.setIfInBounds_toArray, List.set_cons_zero, List.set_cons_succ, i64_w, i32_w]; rfl
    refine pure_ (i := 4) (N := some 19) (v := ?_) (a' := ?_) #[true, false, true, false, true, false, false, false, false, false, false, false] rfl rfl (any_of HT_.out (by kernel_rfl)) (fun _ _ _ h => h) (Or.inl ⟨by rfl, ?_⟩) ?_ ?_; rotate_left
    ·intro w'; go_simp; with_reducible rfl
    rotate_left
    ·simp only [Act.put, List.setIfInBounds_toArray, List.set_cons_zero, List.set_cons_succ, i64_w, i32_w]; rfl
    refine take_ (i := 1) (N := some 16) (v := ?_) (a' := ?_) #[true, true, true, false, true, false, false, false, false, false, false, false] rfl rfl (take_ofW HT_.out HW_.out (by kernel_rfl)) (fun _ _ _ h => h) (Or.inl ⟨by rfl, ?_⟩) hHeld ?_ ?_; rotate_left
    ·rintro w' ⟨s0, s1, s2, s3, s4, s5, s6, s7, s8⟩; go_simp; with_reducible rfl
    rotate_left
    ·simp only [Act.put, List.setIfInBounds_toArray, List.set_cons_zero, List.set_cons_succ, i64_w, i32_w]; rfl
    refine take_ (i := 3) (N := some 18) (v := ?_) (a' := ?_) #[true, true, true, true, true, false, false, false, false, false, false, false] rfl rfl (take_ofW HT_.out HW_.out (by kernel_rfl)) (fun _ _ _ h => h) (Or.inl ⟨by rfl, ?_⟩) hHeld ?_ ?_; rotate_left
    ·rintro w' ⟨s0, s1, s2, s3, s4, s5, s6, s7, s8⟩; go_simp; with_reducible rfl
    rotate_left
    ·simp only [Act.put, List.setIfInBounds_toArray, List.set_cons_zero, List.set_cons_succ, i64_w, i32_w]; rfl
    refine pure_ (i := 5) (N := some 20) (v := ?_) (a' := ?_) #[true, true, true, true, true, true, false, false, false, false, false, false] rfl rfl (any_of HT_.out (by kernel_rfl)) (fun _ _ _ h => h) (Or.inl ⟨by rfl, ?_⟩) ?_ ?_; rotate_left
    ·intro w'; go_simp; with_reducible rfl
    rotate_left
    ·simp only [Act.put, List.setIfInBounds_toArray, List.set_cons_zero, List.set_cons_succ, i64_w, i32_w]; rfl
    refine take_ (i := 6) (N := some 21) (v := ?_) (a' := ?_) #[true, true, true, true, true, true, true, false, false, false, false, false] rfl rfl (take_ofW HT_.out HW_.out (by kernel_rfl)) (fun _ _ _ h => h) (Or.inl ⟨by rfl, ?_⟩) hHeld ?_ ?_; rotate_left
    ·rintro w' ⟨s0, s1, s2, s3, s4, s5, s6, s7, s8⟩; go_simp; with_reducible rfl
    rotate_left
    ·simp only [Act.put, List.setIfInBounds_toArray, List.set_cons_zero, List.set_cons_succ, i64_w, i32_w]; rfl
    refine one_ (i := 7) (N := some 22) #[true, true, true, true, true, true, true, true, false, false, false, false] rfl rfl (one_of HT_.out (by kernel_rfl)) (by decide) (fun K hK => ?_); refine goes_ Tryd.func18 (by kernel_rfl) rfl #[.agg #[.string ((rd_T42 l0_1 x12_1).f0), .slice A174_1 ((rd_T42 l0_1 x12_1).f1).length c174_1, .string ((rd_T42 l0_1 x12_1).f2)]] (by rfl) rfl rfl zA ?_
    with_reducible refine (trystlaw10_Theirs.calls k1 ((rd_T42 l0_1 x12_1).f0) _ _ ((rd_T42 l0_1 x12_1).f1) ((rd_T42 l0_1 x12_1).f2) t175 t176 t179 _ zG ?side1 ?side2 A14.out).mono ?_
    (case side1 => exact Kd.C_below (Kd.C_below HR174_1.out HB.out) zX)
    (case side2 => exact HC174_1.out)
    rintro e w17 ⟨v177, rfl, ho0, hb⟩; refine ⟨_, rfl, ?_⟩; replace HO_174001 := Aside0.mk (Kd.R_elder' (Kd.R_below HO_174001.out zX) (Kd.S_base ho0) hb); replace HO178 := Aside0.mk (Kd.S_lower ho0 (below_size zB)); replace BK171 := zb BK171 hb; replace BK172 := zb BK172 hb; replace BK173 := zb BK173 hb; replace HB := zw hb; (try clear hb); (try clear hb2); (try clear hk); (try clear hi); (try clear ho0); obtain ⟨Ao19, co19, eo19⟩ := Kd.S_slice HO178.out
    (first | subst eo19 | (injection eo19 with f1_ f2_ f3_; have f4_ := f1_.symm; have f5_ := f3_.symm; clear f1_ f2_ f3_; subst f4_; subst f5_))
    refine hK.out _ _ ⟨(blk_cell BK173.out 0).trans rfl, (blk_cell BK173.out 1).trans rfl, (blk_cell BK173.out 2).trans rfl, (blk_cell BK171.out 0).trans rfl, (blk_cell BK171.out 1).trans rfl, (blk_cell BK171.out 2).trans rfl, (zx HB hw174_0), (zx HB hw174_1), (zx HB hw174_2)⟩ (fun hHeld => ?_); clear hK K; refine norm_ (a' := ?_) ?_ ?_; rotate_left
    ·show Act.put _ (some 22) _ = _
     simp only [Act.put, List.setIfInBounds_toArray, List.set_cons_zero, List.set_cons_succ, i64_w, i32_w]; rfl
    refine one_ (i := 8) (N := some 23) #[true, true, true, true, true, true, true, true, true, false, false, false] rfl rfl (one_of HT_.out (by kernel_rfl)) (by decide) (fun K hK => ?_); refine value_ (w1 := ?_) (v := ?_) (by rfl) rfl ?_ ?_; rotate_left 2
    ·go_simp
     constructor
     ·rfl
     ·rfl
    refine hK.out _ _ ⟨(blk_cell (blk_alloc BK173.out _) 0).trans rfl, (blk_cell (blk_alloc BK173.out _) 1).trans rfl, (blk_cell (blk_alloc BK173.out _) 2).trans rfl, (blk_cell (blk_alloc BK171.out _) 0).trans rfl, (blk_cell (blk_alloc BK171.out _) 1).trans rfl, (blk_cell (blk_alloc BK171.out _) 2).trans rfl, (World.cell?_alloc_lt _ _ _ (World.block_lt_of_cell? _ _ ((zx HB hw174_0)))).trans ((zx HB hw174_0)), (World.cell?_alloc_lt _ _ _ (World.block_lt_of_cell? _ _ ((zx HB hw174_1)))).trans ((zx HB hw174_1)), (World.cell?_alloc_lt _ _ _ (World.block_lt_of_cell? _ _ ((zx HB hw174_2)))).trans ((zx HB hw174_2))⟩ (fun hHeld => ?_)
    clear hK K; refine norm_ (a' := ?_) ?_ ?_; rotate_left
    ·show Act.put _ (some 23) _ = _
     simp only [Act.put, List.setIfInBounds_toArray, List.set_cons_zero, List.set_cons_succ, i64_w, i32_w]; rfl
    refine one_ (i := 9) (N := some 24) #[true, true, true, true, true, true, true, true, true, true, false, false] rfl rfl (one_of HT_.out (by kernel_rfl)) (by decide) (fun K hK => ?_); refine Kd.R_append_step k37 (w0 := w) w.heap.size (by rfl) (.tmp 16) (.tmp 23) 29 37 (.agg #[(.string ⟨#[]⟩), (.slice none 0 0), (.string ⟨#[]⟩)]) 56 rfl Tryd.underlying29 info37 rfl (by decide) (by omega) u174001 x174001_1 (⟨t175, t176, t179⟩ : S37) [.string t175, .slice Ao19 t176.length co19, .string t179] (fun _ => True) (fun k_ => ((fun _ => True)) k_ ∧ some k_ ≠ (u174001 : Value).ownBlock) rfl rfl ?aP (fun _ hk => hk) ?aF ?aO ?aB ?aS ?aL ?_
    (case aP => exact k37_mkM _ _ _ (⟨t175, t176, t179⟩ : S37) (Kd.R_mono (Kd.R_apart' ((Kd.S_R HO178.out)) (Kd.R_typed HO_174001.out) (by decide)) (fun k_ hk => ⟨trivial, hk.2⟩)))
    (case aB => exact zB)
    (case aF => exact (fun _ _ => trivial))
    (case aO => exact (by (with_reducible repeat (first | apply Kd.R_alloc | apply Kd.R_drewN | apply Kd.R_drew)); exact Kd.R_mono HO_174001.out (fun _ hk => trivial)))
    (case aS => exact (below_size zB))
    (case aL => have := LMc15.out; omega)
    intro v181 w18 ho hb hg hat; rw [← Ny180.out] at ho; have n0_ := Aside0.mk (blk_grown (g := gb171) (o := .cells #[.string a0_0, .slice (some ad174) l0_1.length c0_1, .slice A0_2 l0_2.length c0_2] 25 (0, 0)) (blk_below BK171.out zX) hg (Kd.R_ne HO_174001.out BK171.out (by decide))); have n1_ := Aside0.mk (blk_grown (g := gb172) (o := .cells #[.string (⟨#[]⟩ : ByteArray), .slice none 0 0, .slice none 0 0] 32 (0, 0)) (blk_below BK172.out zX) hg (Kd.R_ne HO_174001.out BK172.out (by decide))); have n2_ := Aside0.mk (blk_grown (g := gb173) (o := .cells #[.string a0_0, u174001, .slice none 0 0] 32 (0, 0)) (blk_below BK173.out zX) hg (Kd.R_ne HO_174001.out BK173.out (by decide))); have n3_ := Aside0.mk (hb); have n4_ := Aside0.mk (ho); clear BK171; clear BK172; clear BK173; clear HB; clear HO_174001; clear HO178; have BK171 := n0_; have BK172 := n1_; have BK173 := n2_; have HB := n3_
    have HO182 := n4_; clear n0_ n1_ n2_ n3_ n4_; clear ho hb hg hat; obtain ⟨Ao20, co20, eo20⟩ := Kd.R_slice HO182.out
    (first | subst eo20 | (injection eo20 with f1_ f2_ f3_; have f4_ := f1_.symm; have f5_ := f3_.symm; clear f1_ f2_ f3_; subst f4_; subst f5_))
    refine hK.out _ _ ⟨(blk_cell BK173.out 0).trans rfl, (blk_cell BK173.out 1).trans rfl, (blk_cell BK173.out 2).trans rfl, (blk_cell BK171.out 0).trans rfl, (blk_cell BK171.out 1).trans rfl, (blk_cell BK171.out 2).trans rfl, (zx HB hw174_0), (zx HB hw174_1), (zx HB hw174_2)⟩ (fun hHeld => ?_); clear hK K; refine norm_ (a' := ?_) ?_ ?_; rotate_left
    ·show Act.put _ (some 24) _ = _
     simp only [Act.put, List.setIfInBounds_toArray, List.set_cons_zero, List.set_cons_succ, i64_w, i32_w]; rfl
    refine pure_ (i := 10) (N := some 25) (v := ?_) (a' := ?_) #[true, true, true, true, true, true, true, true, true, true, true, false] rfl rfl (any_of HT_.out (by kernel_rfl)) (fun _ _ _ h => h) (Or.inl ⟨by rfl, ?_⟩) ?_ ?_; rotate_left
    ·intro w'; go_simp; with_reducible rfl
    rotate_left
    ·simp only [Act.put, List.setIfInBounds_toArray, List.set_cons_zero, List.set_cons_succ, i64_w, i32_w]; rfl
    refine last_ (i := 11) (N := none) #[true, true, true, true, true, true, true, true, true, true, true, true] rfl rfl (one_of HT_.out (by kernel_rfl)) (by decide) (fun K hK => ?_); have hs21 : w18.cell? ⟨gb173, 1, none⟩ = some (u174001) := (blk_cell BK173.out 1).trans rfl; have hfs21 := zf BK173 1; have hns21_0 := NB171_173.out; have hns21_1 := NB172_173.out; have hms21_0 := NB173_171.out; have hms21_1 := NB173_172.out; refine skip_ (w1 := ?_) (by rfl) rfl ?_ ?_; rotate_left
    ·go_simp; rfl
    refine hK.out _ _ ?_; clear hK K; refine done_ (done_of HT_.out (by kernel_rfl)) ?_
    try go_wp2
    go_roundg k1
    case measure => have := HK1.out; omega
    case rel => exact ⟨(wrap64 (x12_1 + 1)), (y180), (.slice Ao20 y180.length co20), zS, H', ⟨by have := HK1.out; omega⟩, ⟨by (with_reducible repeat (first | apply Kd.R_alloc | apply Kd.R_drewN | apply Kd.R_drew)); exact Kd.R_mono (Kd.R_far (p := ⟨gb173, 1, none⟩) (Kd.R_types HO182.out BK173.out (by decide)) (fun _ hk => hk.2) (.slice Ao20 y180.length co20)) (fun _ hk => trivial)⟩, ⟨by (with_reducible repeat (first | refine blk_drewN ?_ _ | refine blk_drew ?_ | refine blk_alloc ?_ _)); refine blk_far ?_ NB171_173.out _; (with_reducible repeat (first | refine blk_drewN ?_ _ | refine blk_drew ?_ | refine blk_alloc ?_ _)); exact BK171.out⟩, ⟨by (with_reducible repeat (first | refine blk_drewN ?_ _ | refine blk_drew ?_ | refine blk_alloc ?_ _)); refine blk_far ?_ NB172_173.out _; (with_reducible repeat (first | refine blk_drewN ?_ _ | refine blk_drew ?_ | refine blk_alloc ?_ _)); exact BK172.out⟩, ⟨by (with_reducible repeat (first | refine blk_drewN ?_ _ | refine blk_drew ?_ | refine blk_alloc ?_ _)); refine blk_put (cs := #[.string a0_0, u174001, .slice none 0 0]) ?_ 1 _ rfl; (with_reducible repeat (first | refine blk_drewN ?_ _ | refine blk_drew ?_ | refine blk_alloc ?_ _)); exact BK173.out⟩, ⟨zB⟩⟩
   ·have H' := Aside0.mk H; clear H; have hnb22 := NB171_172.out; have hnc22 := NB172_171.out; have hnb23 := NB171_173.out; have hnc23 := NB173_171.out; have hcz24_0 := zc0 BK171; have hcz24_1 := zc1 BK171; have hcz24_2 := zc2 BK171; have hfz24_0 := zf BK171 0; have hfz24_1 := zf BK171 1; have hfz24_2 := zf BK171 2; go_wp2
    go_loopg [30] k1 (fun kq v30 w' => ∃ (x30_2 : Int) (x174002_2 : List (S32)) (u174002 : Value), v30 = .int .i64 x30_2 ∧ Aside0 (trystlaw11_Theirs.l1 kq (l0_2.length : Int) x30_2 a0_0 l0_1 l0_2 a0_0 x174001_1 x174002_2 = some (r1, r2, r3)) ∧ Aside0 (kq ≤ k1) ∧ Aside0 (Kd.R k37 37 w' w.heap.size (fun _ => True) u174001 x174001_1) ∧ Aside0 (Kd.R k32 32 w' w.heap.size (fun k_ => some k_ ≠ (u174001 : Value).ownBlock ∧ k_ ≠ gb172 ∧ k_ ≠ gb173) u174002 x174002_2) ∧ Aside0 (w'.heap[gb171]? = some (.cells #[.string a0_0, (.slice A0_1 l0_1.length c0_1), (.slice A0_2 l0_2.length c0_2)] 25 (0, 0))) ∧ Aside0 (w'.heap[gb172]? = some (.cells #[.string (⟨#[]⟩ : ByteArray), (.slice none 0 0), (.slice none 0 0)] 32 (0, 0))) ∧ Aside0 (w'.heap[gb173]? = some (.cells #[.string a0_0, u174001, u174002] 32 (0, 0))) ∧ Aside0 (Below w.heap.size w w'))
    case atStart => exact ⟨(0), (([] : List (S32))), (.slice none 0 0), zS, H', ⟨Nat.le_refl _⟩, ⟨Kd.R_below HO_174001.out zX⟩, ⟨by first | exact Kd.R_nil _ _ _ _ _ | exact Kd.N_nil _ _ _ _ _ | exact Kd.V_nil _ _ _ _ _ | exact Kd.Q_nil _ _ _ _ _ | exact Kd.S_nil _ _ _ _ _⟩, ⟨blk_below BK171.out zX⟩, ⟨blk_below BK172.out zX⟩, ⟨blk_below BK173.out zX⟩, ⟨zB⟩⟩
    case round =>
     clear H'; clear c11b0 hcz24_0 hcz24_1 hcz24_2 hfz24_0 hfz24_1 hfz24_2; obtain ⟨x30_2, x174002_2, u174002, rfl, HA, HK2, HO_174001, HO_174002, BK171, BK172, BK173, HB⟩ := hrel
     cases gk with
     | zero => exact absurd HA.out (by simp [trystlaw11_Theirs.l1])
     | succ k2 =>
      have H := HA.out; clear HA; simp only [trystlaw11_Theirs.l1] at H; replace H := zId H; rcases H with ⟨-, c25b0, H⟩ | ⟨-, c25b0, H⟩
      ·replace H := zJd H; obtain ⟨-, c26b0, H⟩ := H; replace H := zJd H; obtain ⟨-, c27b0, H⟩ := H; replace H := Option.bind_eq_some_iff.mp H; obtain ⟨⟨t184, t185, t188⟩, A280, H⟩ := H; replace H : (if x174002_2.length < 2199023255552 then (trystlaw11_Theirs.l1 k2 (l0_2.length : Int) (wrap64 (x30_2 + 1)) a0_0 l0_1 l0_2 a0_0 x174001_1 (x174002_2 ++ [(⟨t184, t185, t188⟩ : S32)])) else (none)) = some (r1, r2, r3) := H; have A28 := Aside0.mk A280; clear A280; replace H := zJ H; obtain ⟨c29, H⟩ := H; have LMc29 := Aside0.mk c29; clear c29; obtain ⟨y191, hy191⟩ : ∃ y_ : List (S32), y_ = (x174002_2 ++ [(⟨t184, t185, t188⟩ : S32)]) := ⟨_, rfl⟩
       replace H : (trystlaw11_Theirs.l1 k2 (l0_2.length : Int) (wrap64 (x30_2 + 1)) a0_0 l0_1 l0_2 a0_0 x174001_1 y191) = some (r1, r2, r3) := by first | (rw [hy191]; with_reducible exact H) | (have H2_ := (Option.bind_some _ _).symm.trans H; rw [hy191]; with_reducible exact H2_) | (have H2_ := (Option.bind_some _ _).symm.trans H; with_reducible exact H2_) | with_reducible exact H | (rw [hy191]; exact H) | exact H
       have Ny191 := Aside0.mk hy191; clear hy191; have H' := Aside0.mk H; clear H
       try go_wp2
       replace HO_174001 := Aside0.mk (Kd.R_drew HO_174001.out); replace HO_174002 := Aside0.mk (Kd.R_drew HO_174002.out); replace BK171 := Aside0.mk (blk_drew BK171.out); replace BK172 := Aside0.mk (blk_drew BK172.out); replace BK173 := Aside0.mk (blk_drew BK173.out); replace HB := Aside0.mk (below_drew1 HB.out); have p183 := zQ (0 ≤ (x30_2 : Int)); have q183 := zQ (x30_2 < (l0_2.length : Int)); obtain ⟨ad183, A183_1, c183_1, A183_2, c183_2, e183, hx183_0, hx183_1, hx183_2, hl183_1, hi183_1, hl183_2, hi183_2⟩ := at_T25 HR0_2.out x30_2 p183 q183; have hw183_2 := hx183_2; have hw183_1 := hx183_1; have hw183_0 := hx183_0
       cases e183
       replace hx183_0 := zx HB hx183_0; replace hx183_1 := zx HB hx183_1; replace hx183_2 := zx HB hx183_2; have HR183_1 := Aside0.mk hi183_1; have HC183_1 := Aside0.mk hl183_1; clear hi183_1 hl183_1; have HR183_2 := Aside0.mk hi183_2; have HC183_2 := Aside0.mk hl183_2; clear hi183_2 hl183_2; replace p183 := eq_true p183; replace q183 := eq_true q183
       refine start_ (n := 12) (S := fun w' => w'.cell? ⟨gb173, 0, none⟩ = some (.string a0_0) ∧ w'.cell? ⟨gb173, 1, none⟩ = some (u174001) ∧ w'.cell? ⟨gb173, 2, none⟩ = some (u174002) ∧ w'.cell? ⟨gb171, 0, none⟩ = some (.string a0_0) ∧ w'.cell? ⟨gb171, 1, none⟩ = some (.slice A0_1 l0_1.length c0_1) ∧ w'.cell? ⟨gb171, 2, none⟩ = some (.slice (some ad183) l0_2.length c0_2) ∧ w'.cell? (ad183.add ((x30_2).toNat * 3)) = some (.string ((rd_T25 l0_2 x30_2).f0)) ∧ w'.cell? ⟨(ad183.add ((x30_2).toNat * 3)).block, (ad183.add ((x30_2).toNat * 3)).off + 1, none⟩ = some (.slice A183_1 ((rd_T25 l0_2 x30_2).f1).length c183_1) ∧ w'.cell? ⟨(ad183.add ((x30_2).toNat * 3)).block, (ad183.add ((x30_2).toNat * 3)).off + 2, none⟩ = some (.slice A183_2 ((rd_T25 l0_2 x30_2).f2).length c183_2)) (ds := [11]) #[false, false, false, false, false, false, false, false, false, false, false, false] (by kernel_rfl) rfl rfl ⟨(blk_cell BK173.out 0).trans rfl, (blk_cell BK173.out 1).trans rfl, (blk_cell BK173.out 2).trans rfl, (blk_cell BK171.out 0).trans rfl, (blk_cell BK171.out 1).trans rfl, (blk_cell BK171.out 2).trans rfl, (zx HB hw183_0), (zx HB hw183_1), (zx HB hw183_2)⟩ (fun hHeld => ?_); refine with_tabW trystlaw11_Theirs.tab10 trystlaw11_Theirs.bits10 (fun HT_ HW_ => ?_)
       generalize wr.drew = w30 at HO_174001 HO_174002 BK171 BK172 BK173 HB HR183_1 HR183_2 hx183_0 hx183_1 hx183_2 hHeld ⊢; refine pure_ (i := 0) (N := some 33) (v := ?_) (a' := ?_) #[true, false, false, false, false, false, false, false, false, false, false, false] rfl rfl (any_of HT_.out (by kernel_rfl)) (fun _ _ _ h => h) (Or.inl ⟨by rfl, ?_⟩) ?_ ?_; rotate_left
       ·intro w'; go_simp; with_reducible rfl
       rotate_left
       ·simp only [Act.put, List.setIfInBounds_toArray, List.set_cons_zero, List.set_cons_succ, i64_w, i32_w]; rfl
       refine pure_ (i := 2) (N := some 35) (v := ?_) (a' := ?_) #[true, false, true, false, false, false, false, false, false, false, false, false] rfl rfl (any_of HT_.out (by kernel_rfl)) (fun _ _ _ h => h) (Or.inl ⟨by rfl, ?_⟩) ?_ ?_; rotate_left
       ·intro w'; go_simp; with_reducible rfl
       rotate_left
       ·simp only [Act.put, List.setIfInBounds_toArray, List.set_cons_zero, List.set_cons_succ, i64_w, i32_w]; rfl
       refine pure_ (i := 4) (N := some 37) (v := ?_) (a' := ?_) #[true, false, true, false, true, false, false, false, false, false, false, false] rfl rfl (any_of HT_.out (by kernel_rfl)) (fun _ _ _ h => h) (Or.inl ⟨by rfl, ?_⟩) ?_ ?_; rotate_left
       ·intro w'; go_simp; with_reducible rfl
       rotate_left
       ·simp only [Act.put, List.setIfInBounds_toArray, List.set_cons_zero, List.set_cons_succ, i64_w, i32_w]; rfl
       refine take_ (i := 1) (N := some 34) (v := ?_) (a' := ?_) #[true, true, true, false, true, false, false, false, false, false, false, false] rfl rfl (take_ofW HT_.out HW_.out (by kernel_rfl)) (fun _ _ _ h => h) (Or.inl ⟨by rfl, ?_⟩) hHeld ?_ ?_; rotate_left
       ·rintro w' ⟨s0, s1, s2, s3, s4, s5, s6, s7, s8⟩; go_simp; with_reducible rfl
       rotate_left
       ·simp only [Act.put, List.setIfInBounds_toArray, List.set_cons_zero, List.set_cons_succ, i64_w, i32_w]; rfl
       refine take_ (i := 3) (N := some 36) (v := ?_) (a' := ?_) #[true, true, true, true, true, false, false, false, false, false, false, false] rfl rfl (take_ofW HT_.out HW_.out (by kernel_rfl)) (fun _ _ _ h => h) (Or.inl ⟨by rfl, ?_⟩) hHeld ?_ ?_; rotate_left
       ·rintro w' ⟨s0, s1, s2, s3, s4, s5, s6, s7, s8⟩; go_simp; with_reducible rfl
       rotate_left
       ·simp only [Act.put, List.setIfInBounds_toArray, List.set_cons_zero, List.set_cons_succ, i64_w, i32_w]; rfl
       refine pure_ (i := 5) (N := some 38) (v := ?_) (a' := ?_) #[true, true, true, true, true, true, false, false, false, false, false, false] rfl rfl (any_of HT_.out (by kernel_rfl)) (fun _ _ _ h => h) (Or.inl ⟨by rfl, ?_⟩) ?_ ?_; rotate_left
       ·intro w'; go_simp; with_reducible rfl
       rotate_left
       ·simp only [Act.put, List.setIfInBounds_toArray, List.set_cons_zero, List.set_cons_succ, i64_w, i32_w]; rfl
       refine take_ (i := 6) (N := some 39) (v := ?_) (a' := ?_) #[true, true, true, true, true, true, true, false, false, false, false, false] rfl rfl (take_ofW HT_.out HW_.out (by kernel_rfl)) (fun _ _ _ h => h) (Or.inl ⟨by rfl, ?_⟩) hHeld ?_ ?_; rotate_left
       ·rintro w' ⟨s0, s1, s2, s3, s4, s5, s6, s7, s8⟩; go_simp; with_reducible rfl
       rotate_left
       ·simp only [Act.put, List.setIfInBounds_toArray, List.set_cons_zero, List.set_cons_succ, i64_w, i32_w]; rfl
       refine one_ (i := 7) (N := some 40) #[true, true, true, true, true, true, true, true, false, false, false, false] rfl rfl (one_of HT_.out (by kernel_rfl)) (by decide) (fun K hK => ?_); refine goes_ Tryd.func7 (by kernel_rfl) rfl #[.agg #[.string ((rd_T25 l0_2 x30_2).f0), .slice A183_1 ((rd_T25 l0_2 x30_2).f1).length c183_1, .slice A183_2 ((rd_T25 l0_2 x30_2).f2).length c183_2]] (by rfl) rfl rfl zA ?_
       with_reducible refine (ih k2 (by have := HK1.out; have := HK2.out; omega) ((rd_T25 l0_2 x30_2).f0) _ _ ((rd_T25 l0_2 x30_2).f1) _ _ ((rd_T25 l0_2 x30_2).f2) t184 t185 t188 _ zG ?side1 ?side2 ?side3 ?side4 A28.out).mono ?_
       (case side1 => exact Kd.C_below (Kd.C_below HR183_1.out HB.out) zX)
       (case side2 => exact HC183_1.out)
       (case side3 => exact Kd.C_below (Kd.C_below HR183_2.out HB.out) zX)
       (case side4 => exact HC183_2.out)
       rintro e w31 ⟨v186, v189, rfl, ho0, ho1, hb⟩; refine ⟨_, rfl, ?_⟩; have n0_ := Aside0.mk (Kd.R_elder' (Kd.R_below HO_174001.out zX) (Kd.R_base ho0) hb); have n1_ := Aside0.mk (Kd.R_mono (Kd.R_told (Kd.R_told (Kd.R_old (Kd.R_below HO_174002.out zX) hb) (Kd.R_base ho0)) (Kd.R_base ho1)) (fun _ h_ => h_.1)); have n2_ := Aside0.mk (Kd.R_lower (Kd.R_new' ho0 (Kd.R_lt (Kd.R_below HO_174001.out zX))) (below_size zB)); have n3_ := Aside0.mk (Kd.R_lower (Kd.R_newB (Kd.R_newB (Kd.R_new' (Kd.R_new' ho1 (Kd.R_lt (Kd.R_below HO_174001.out zX))) (Kd.R_lt (Kd.R_below HO_174002.out zX))) (g := gb172) (o := .cells #[.string (⟨#[]⟩ : ByteArray), .slice none 0 0, .slice none 0 0] 32 (0, 0)) (blk_below BK172.out zX)) (g := gb173) (o := .cells #[.string a0_0, u174001, u174002] 32 (0, 0)) (blk_below BK173.out zX)) (below_size zB)); have n4_ := zb BK171 hb
       have n5_ := zb BK172 hb; have n6_ := zb BK173 hb; have n7_ := zw hb; clear HO_174001; clear HO_174002; clear BK171; clear BK172; clear BK173; clear HB; have HO_174001 := n0_; have HO_174002 := n1_; have HO187 := n2_; have HO190 := n3_; have BK171 := n4_; have BK172 := n5_; have BK173 := n6_; have HB := n7_; clear n0_ n1_ n2_ n3_ n4_ n5_ n6_ n7_; (try clear hb); (try clear hb2); (try clear hk); (try clear hi); (try clear ho0); (try clear ho1); obtain ⟨Ao33, co33, eo33⟩ := Kd.R_slice HO187.out
       (first | subst eo33 | (injection eo33 with f1_ f2_ f3_; have f4_ := f1_.symm; have f5_ := f3_.symm; clear f1_ f2_ f3_; subst f4_; subst f5_))
       obtain ⟨Ao34, co34, eo34⟩ := Kd.R_slice HO190.out
       (first | subst eo34 | (injection eo34 with f1_ f2_ f3_; have f4_ := f1_.symm; have f5_ := f3_.symm; clear f1_ f2_ f3_; subst f4_; subst f5_))
       refine hK.out _ _ ⟨(blk_cell BK173.out 0).trans rfl, (blk_cell BK173.out 1).trans rfl, (blk_cell BK173.out 2).trans rfl, (blk_cell BK171.out 0).trans rfl, (blk_cell BK171.out 1).trans rfl, (blk_cell BK171.out 2).trans rfl, (zx HB hw183_0), (zx HB hw183_1), (zx HB hw183_2)⟩ (fun hHeld => ?_); clear hK K; refine norm_ (a' := ?_) ?_ ?_; rotate_left
       ·show Act.put _ (some 40) _ = _
        simp only [Act.put, List.setIfInBounds_toArray, List.set_cons_zero, List.set_cons_succ, i64_w, i32_w]; rfl
       refine one_ (i := 8) (N := some 41) #[true, true, true, true, true, true, true, true, true, false, false, false] rfl rfl (one_of HT_.out (by kernel_rfl)) (by decide) (fun K hK => ?_); refine value_ (w1 := ?_) (v := ?_) (by rfl) rfl ?_ ?_; rotate_left 2
       ·go_simp
        constructor
        ·rfl
        ·rfl
       refine hK.out _ _ ⟨(blk_cell (blk_alloc BK173.out _) 0).trans rfl, (blk_cell (blk_alloc BK173.out _) 1).trans rfl, (blk_cell (blk_alloc BK173.out _) 2).trans rfl, (blk_cell (blk_alloc BK171.out _) 0).trans rfl, (blk_cell (blk_alloc BK171.out _) 1).trans rfl, (blk_cell (blk_alloc BK171.out _) 2).trans rfl, (World.cell?_alloc_lt _ _ _ (World.block_lt_of_cell? _ _ ((zx HB hw183_0)))).trans ((zx HB hw183_0)), (World.cell?_alloc_lt _ _ _ (World.block_lt_of_cell? _ _ ((zx HB hw183_1)))).trans ((zx HB hw183_1)), (World.cell?_alloc_lt _ _ _ (World.block_lt_of_cell? _ _ ((zx HB hw183_2)))).trans ((zx HB hw183_2))⟩ (fun hHeld => ?_)
       clear hK K; refine norm_ (a' := ?_) ?_ ?_; rotate_left
       ·show Act.put _ (some 41) _ = _
        simp only [Act.put, List.setIfInBounds_toArray, List.set_cons_zero, List.set_cons_succ, i64_w, i32_w]; rfl
       refine one_ (i := 9) (N := some 42) #[true, true, true, true, true, true, true, true, true, true, false, false] rfl rfl (one_of HT_.out (by kernel_rfl)) (by decide) (fun K hK => ?_); refine Kd.R_append_step k32 (w0 := w) w.heap.size (by rfl) (.tmp 34) (.tmp 41) 30 32 (.agg #[(.string ⟨#[]⟩), (.slice none 0 0), (.slice none 0 0)]) 64 rfl Tryd.underlying30 info32 rfl (by decide) (by omega) u174002 x174002_2 (⟨t184, t185, t188⟩ : S32) [.string t184, .slice Ao33 t185.length co33, .slice Ao34 t188.length co34] (fun k_ => some k_ ≠ (u174001 : Value).ownBlock ∧ k_ ≠ gb172 ∧ k_ ≠ gb173) (fun k_ => ((fun k_ => some k_ ≠ (u174001 : Value).ownBlock ∧ k_ ≠ gb172 ∧ k_ ≠ gb173)) k_ ∧ some k_ ≠ (u174002 : Value).ownBlock) rfl rfl ?aP (fun _ hk => hk) ?aF ?aO ?aB ?aS ?aL ?_
       (case aP => exact k32_mkM _ _ _ (⟨t184, t185, t188⟩ : S32) (Kd.R_mono (Kd.R_types (Kd.R_types (Kd.R_apart' (HO187.out) (Kd.R_typed HO_174002.out) (by decide)) BK172.out (by decide)) BK173.out (by decide)) (fun k_ hk => ⟨⟨hk.1.1.1.2, ⟨hk.1.2, hk.2⟩⟩, hk.1.1.2⟩)) (Kd.R_mono (HO190.out) (fun k_ hk => ⟨⟨hk.1.1.1.2, ⟨hk.1.2, hk.2⟩⟩, hk.1.1.2⟩)))
       (case aB => exact zB)
       (case aF => exact (fun k_ hk => ⟨Kd.fresh' (Kd.R_lt (Kd.R_below HO_174001.out zX)) k_ hk, Kd.freshB (g := gb172) (o := .cells #[.string (⟨#[]⟩ : ByteArray), .slice none 0 0, .slice none 0 0] 32 (0, 0)) (blk_below BK172.out zX) k_ hk, Kd.freshB (g := gb173) (o := .cells #[.string a0_0, u174001, u174002] 32 (0, 0)) (blk_below BK173.out zX) k_ hk⟩))
       (case aO => exact (by (with_reducible repeat (first | apply Kd.R_alloc | apply Kd.R_drewN | apply Kd.R_drew)); exact Kd.R_mono HO_174002.out (fun _ hk => ⟨hk.1.1.1, ⟨hk.1.1.2.1, hk.1.1.2.2⟩⟩)))
       (case aS => exact (below_size zB))
       (case aL => have := LMc29.out; omega)
       intro v192 w32 ho hb hg hat; rw [← Ny191.out] at ho; have n0_ := Aside0.mk (Kd.R_over' (Kd.R_below HO_174001.out zX) (Kd.R_typed (Kd.R_below HO_174002.out zX)) (by decide) hg); have n1_ := Aside0.mk (blk_grown (g := gb171) (o := .cells #[.string a0_0, .slice A0_1 l0_1.length c0_1, .slice (some ad183) l0_2.length c0_2] 25 (0, 0)) (blk_below BK171.out zX) hg (Kd.R_ne HO_174002.out BK171.out (by decide))); have n2_ := Aside0.mk (blk_grown (g := gb172) (o := .cells #[.string (⟨#[]⟩ : ByteArray), .slice none 0 0, .slice none 0 0] 32 (0, 0)) (blk_below BK172.out zX) hg (Kd.R_away HO_174002.out (fun _ hk => hk.1.1.2.1))); have n3_ := Aside0.mk (blk_grown (g := gb173) (o := .cells #[.string a0_0, u174001, u174002] 32 (0, 0)) (blk_below BK173.out zX) hg (Kd.R_away HO_174002.out (fun _ hk => hk.1.1.2.2))); have n4_ := Aside0.mk (hb); have n5_ := Aside0.mk (ho); clear HO_174001
       clear BK171; clear BK172; clear BK173; clear HB; clear HO_174002; clear HO187; clear HO190; have HO_174001 := n0_; have BK171 := n1_; have BK172 := n2_; have BK173 := n3_; have HB := n4_; have HO193 := n5_; clear n0_ n1_ n2_ n3_ n4_ n5_; clear ho hb hg hat; obtain ⟨Ao35, co35, eo35⟩ := Kd.R_slice HO193.out
       (first | subst eo35 | (injection eo35 with f1_ f2_ f3_; have f4_ := f1_.symm; have f5_ := f3_.symm; clear f1_ f2_ f3_; subst f4_; subst f5_))
       refine hK.out _ _ ⟨(blk_cell BK173.out 0).trans rfl, (blk_cell BK173.out 1).trans rfl, (blk_cell BK173.out 2).trans rfl, (blk_cell BK171.out 0).trans rfl, (blk_cell BK171.out 1).trans rfl, (blk_cell BK171.out 2).trans rfl, (zx HB hw183_0), (zx HB hw183_1), (zx HB hw183_2)⟩ (fun hHeld => ?_); clear hK K; refine norm_ (a' := ?_) ?_ ?_; rotate_left
       ·show Act.put _ (some 42) _ = _
        simp only [Act.put, List.setIfInBounds_toArray, List.set_cons_zero, List.set_cons_succ, i64_w, i32_w]; rfl
       refine pure_ (i := 10) (N := some 43) (v := ?_) (a' := ?_) #[true, true, true, true, true, true, true, true, true, true, true, false] rfl rfl (any_of HT_.out (by kernel_rfl)) (fun _ _ _ h => h) (Or.inl ⟨by rfl, ?_⟩) ?_ ?_; rotate_left
       ·intro w'; go_simp; with_reducible rfl
       rotate_left
       ·simp only [Act.put, List.setIfInBounds_toArray, List.set_cons_zero, List.set_cons_succ, i64_w, i32_w]; rfl
       refine last_ (i := 11) (N := none) #[true, true, true, true, true, true, true, true, true, true, true, true] rfl rfl (one_of HT_.out (by kernel_rfl)) (by decide) (fun K hK => ?_); have hs36 : w32.cell? ⟨gb173, 2, none⟩ = some (u174002) := (blk_cell BK173.out 2).trans rfl; have hfs36 := zf BK173 2; have hns36_0 := NB171_173.out; have hns36_1 := NB172_173.out; have hms36_0 := NB173_171.out; have hms36_1 := NB173_172.out; refine skip_ (w1 := ?_) (by rfl) rfl ?_ ?_; rotate_left
       ·go_simp; rfl
       refine hK.out _ _ ?_; clear hK K; refine done_ (done_of HT_.out (by kernel_rfl)) ?_
       try go_wp2
       go_roundg k2
       case measure => have := HK1.out; have := HK2.out; omega
       case rel => exact ⟨(wrap64 (x30_2 + 1)), (y191), (.slice Ao35 y191.length co35), zS, H', ⟨by have := HK1.out; have := HK2.out; omega⟩, ⟨by (with_reducible repeat (first | apply Kd.R_alloc | apply Kd.R_drewN | apply Kd.R_drew)); exact Kd.R_mono (Kd.R_far (p := ⟨gb173, 2, none⟩) (Kd.R_types HO_174001.out BK173.out (by decide)) (fun _ hk => hk.2) (.slice Ao35 y191.length co35)) (fun _ hk => trivial)⟩, ⟨by (with_reducible repeat (first | apply Kd.R_alloc | apply Kd.R_drewN | apply Kd.R_drew)); exact Kd.R_mono (Kd.R_far (p := ⟨gb173, 2, none⟩) (Kd.R_mono HO193.out (fun k_ hk => (⟨hk, hk.2.2⟩ : _ ∧ k_ ≠ gb173))) (fun _ hk => hk.2) (.slice Ao35 y191.length co35)) (fun _ hk => ⟨hk.1.1, ⟨hk.1.2.1, hk.1.2.2⟩⟩)⟩, ⟨by (with_reducible repeat (first | refine blk_drewN ?_ _ | refine blk_drew ?_ | refine blk_alloc ?_ _)); refine blk_far ?_ NB171_173.out _; (with_reducible repeat (first | refine blk_drewN ?_ _ | refine blk_drew ?_ | refine blk_alloc ?_ _)); exact BK171.out⟩, ⟨by (with_reducible repeat (first | refine blk_drewN ?_ _ | refine blk_drew ?_ | refine blk_alloc ?_ _)); refine blk_far ?_ NB172_173.out _; (with_reducible repeat (first | refine blk_drewN ?_ _ | refine blk_drew ?_ | refine blk_alloc ?_ _)); exact BK172.out⟩, ⟨by (with_reducible repeat (first | refine blk_drewN ?_ _ | refine blk_drew ?_ | refine blk_alloc ?_ _)); refine blk_put (cs := #[.string a0_0, u174001, u174002]) ?_ 2 _ rfl; (with_reducible repeat (first | refine blk_drewN ?_ _ | refine blk_drew ?_ | refine blk_alloc ?_ _)); exact BK173.out⟩, ⟨zB⟩⟩
      ·simp only [Option.some.injEq, Prod.mk.injEq] at H; obtain ⟨rfl, rfl, rfl⟩ := H; have hnb37 := NB173_171.out; have hnc37 := NB171_173.out; have hnb38 := NB173_172.out; have hnc38 := NB172_173.out; have hcz39_0 := zc0 BK173; have hcz39_1 := zc1 BK173; have hcz39_2 := zc2 BK173; have hfz39_0 := zf BK173 0; have hfz39_1 := zf BK173 1; have hfz39_2 := zf BK173 2; have hnb40 := NB172_171.out; have hnc40 := NB171_172.out; have hcz41_0 := zc0 BK172; have hcz41_1 := zc1 BK172
       have hcz41_2 := zc2 BK172; have hfz41_0 := zf BK172 0; have hfz41_1 := zf BK172 1; have hfz41_2 := zf BK172 2; obtain ⟨Ao42, co42, eo42⟩ := Kd.R_slice HO_174001.out; subst eo42; obtain ⟨Ao43, co43, eo43⟩ := Kd.R_slice HO_174002.out; subst eo43; go_wp2
       refine bodyPost_ret (results_cell_row rfl _ _ gb172 32 #[.string a0_0, .slice Ao42 x174001_1.length co42, .slice Ao43 x174002_2.length co43] (0, 0) _ rfl (by (with_reducible repeat (first | refine blk_drewN ?_ _ | refine blk_drew ?_ | refine blk_alloc ?_ _)); refine blk_put (cs := #[.string a0_0, .slice Ao42 x174001_1.length co42, .slice none 0 0]) ?_ 2 _ rfl; (with_reducible repeat (first | refine blk_drewN ?_ _ | refine blk_drew ?_ | refine blk_alloc ?_ _)); refine blk_put (cs := #[.string a0_0, .slice none 0 0, .slice none 0 0]) ?_ 1 _ rfl; (with_reducible repeat (first | refine blk_drewN ?_ _ | refine blk_drew ?_ | refine blk_alloc ?_ _)); refine blk_put (cs := #[.string (⟨#[]⟩ : ByteArray), .slice none 0 0, .slice none 0 0]) ?_ 0 _ rfl; (with_reducible repeat (first | refine blk_drewN ?_ _ | refine blk_drew ?_ | refine blk_alloc ?_ _)); exact BK172.out) Tryd.underlying32 rfl (by kernel_rfl)) rfl ?_
       exact ⟨_, _, zE, by (with_reducible repeat (first | apply Kd.R_alloc | apply Kd.R_drewN | apply Kd.R_drew)); exact Kd.R_mono (Kd.R_far (p := ⟨gb172, 2, none⟩) (Kd.R_far (p := ⟨gb172, 1, none⟩) (Kd.R_far (p := ⟨gb172, 0, none⟩) (Kd.R_types HO_174001.out BK172.out (by decide)) (fun _ hk => hk.2) (.string a0_0)) (fun _ hk => hk.2) (.slice Ao42 x174001_1.length co42)) (fun _ hk => hk.2) (.slice Ao43 x174002_2.length co43)) (fun _ hk => trivial), by (with_reducible repeat (first | apply Kd.R_alloc | apply Kd.R_drewN | apply Kd.R_drew)); exact Kd.R_mono (Kd.R_far (p := ⟨gb172, 2, none⟩) (Kd.R_far (p := ⟨gb172, 1, none⟩) (Kd.R_far (p := ⟨gb172, 0, none⟩) (Kd.R_mono HO_174002.out (fun k_ hk => (⟨hk, hk.2.1⟩ : _ ∧ k_ ≠ gb172))) (fun _ hk => hk.2) (.string a0_0)) (fun _ hk => hk.2) (.slice Ao42 x174001_1.length co42)) (fun _ hk => hk.2) (.slice Ao43 x174002_2.length co43)) (fun _ hk => hk.1.1), zB⟩
end Go.Proofs.YtdojmdbaiddkgaaDoor.Print
end
section
namespace Go.Proofs.YtdojmdbaiddkgaaDoor.Print
open Go.RowKit Go.Proofs.YtdojmdbaiddkgaaDoorW.PrintWords Go.Proofs.YtdojmdbaiddkgaaDoorW.PrintLast Go.Proofs.YtdojmdbaiddkgaaDoorW.PrintMore
set_option linter.unusedVariables false
set_option linter.unusedSimpArgs false
mutual
def trystlaw11_Same.j0 : Nat → Bool → ByteArray → List (S42) → List (S25) → ByteArray → List (S42) → List (S25) → Option (Bool)
 | 0, _, _, _, _, _, _, _ => none
 | k + 1, x29, x204000, x204001, x204002, x205000, x205001, x205002 => if x29 = true then (some false) else (trystlaw11_Same.l0 k (x204001.length : Int) 0 x204000 x204001 x204002 x205000 x205001 x205002)
def trystlaw11_Same.l0 : Nat → Int → Int → ByteArray → List (S42) → List (S25) → ByteArray → List (S42) → List (S25) → Option (Bool)
 | 0, _, _, _, _, _, _, _, _ => none
 | k + 1, x32, x33, x204000, x204001, x204002, x205000, x205001, x205002 => if x33 < x32 then (if 0 ≤ x33 then (if x33 < (x204001.length : Int) then (if x33 < (x205001.length : Int) then ((trystlaw10_Same.f k ((rd_T42 x204001 x33).f0) ((rd_T42 x204001 x33).f1) ((rd_T42 x204001 x33).f2) ((rd_T42 x205001 x33).f0) ((rd_T42 x205001 x33).f1) ((rd_T42 x205001 x33).f2)).bind fun t207 => (if t207 = true then (trystlaw11_Same.l0 k x32 (wrap64 (x33 + 1)) x204000 x204001 x204002 x205000 x205001 x205002) else (some false))) else (none)) else (none)) else (none)) else (trystlaw11_Same.l1 k (x204002.length : Int) 0 x204000 x204001 x204002 x205000 x205001 x205002)
def trystlaw11_Same.l1 : Nat → Int → Int → ByteArray → List (S42) → List (S25) → ByteArray → List (S42) → List (S25) → Option (Bool)
 | 0, _, _, _, _, _, _, _, _ => none
 | k + 1, x51, x52, x204000, x204001, x204002, x205000, x205001, x205002 => if x52 < x51 then (if 0 ≤ x52 then (if x52 < (x204002.length : Int) then (if x52 < (x205002.length : Int) then ((trystlaw11_Same.f k ((rd_T25 x204002 x52).f0) ((rd_T25 x204002 x52).f1) ((rd_T25 x204002 x52).f2) ((rd_T25 x205002 x52).f0) ((rd_T25 x205002 x52).f1) ((rd_T25 x205002 x52).f2)).bind fun t210 => (if t210 = true then (trystlaw11_Same.l1 k x51 (wrap64 (x52 + 1)) x204000 x204001 x204002 x205000 x205001 x205002) else (some false))) else (none)) else (none)) else (none)) else (some true)
def trystlaw11_Same.f : Nat → ByteArray → List (S42) → List (S25) → ByteArray → List (S42) → List (S25) → Option (Bool)
 | 0, _, _, _, _, _, _ => none
 | k + 1, a0_0, l0_1, l0_2, a1_0, l1_1, l1_2 => if a0_0.toList = a1_0.toList then (if (l0_1.length : Int) = (l1_1.length : Int) then (trystlaw11_Same.j0 k ((l0_2.length : Int) != (l1_2.length : Int)) a0_0 l0_1 l0_2 a1_0 l1_1 l1_2) else (trystlaw11_Same.j0 k true a0_0 l0_1 l0_2 a1_0 l1_1 l1_2)) else (trystlaw11_Same.j0 k true a0_0 l0_1 l0_2 a1_0 l1_1 l1_2)
end
def trystlaw11_Same.T6 : Bool × List (List Nat × List Nat) := (true, [([], []), ([0], [0]), ([], []), ([1, 2], [1, 2]), ([3], [3]), ([], []), ([5], [5]), ([], []), ([6, 7], [6, 7]), ([8], [8]), ([4, 9], [4, 9]), ([10], [10])])
def trystlaw11_Same.B6 : List Nat := [0, 1, 0, 7, 15, 0, 32, 0, 224, 480, 1023, 2047]
theorem trystlaw11_Same.tab6 : rtab .any (opsOf Tryd.f8 6) = trystlaw11_Same.T6 := by kernel_rfl
theorem trystlaw11_Same.bits6 : waitsOk trystlaw11_Same.T6.2 trystlaw11_Same.B6 = true := by kernel_rfl
def trystlaw11_Same.T12 : Bool × List (List Nat × List Nat) := (true, [([], []), ([0], [0]), ([], []), ([1, 2], [1, 2]), ([3], [3]), ([], []), ([5], [5]), ([], []), ([6, 7], [6, 7]), ([8], [8]), ([4, 9], [4, 9]), ([10], [10])])
def trystlaw11_Same.B12 : List Nat := [0, 1, 0, 7, 15, 0, 32, 0, 224, 480, 1023, 2047]
theorem trystlaw11_Same.tab12 : rtab .any (opsOf Tryd.f8 12) = trystlaw11_Same.T12 := by kernel_rfl
theorem trystlaw11_Same.bits12 : waitsOk trystlaw11_Same.T12.2 trystlaw11_Same.B12 = true := by kernel_rfl
set_option maxHeartbeats 8000000 in
set_option maxRecDepth 100000 in
theorem trystlaw11_Same.calls (k : Nat) : ∀ (a0_0 : ByteArray) (A0_1 : Option Addr) (c0_1 : Nat) (l0_1 : List (S42)) (A0_2 : Option Addr) (c0_2 : Nat) (l0_2 : List (S25)) (a1_0 : ByteArray) (A1_1 : Option Addr) (c1_1 : Nat) (l1_1 : List (S42)) (A1_2 : Option Addr) (c1_2 : Nat) (l1_2 : List (S25)) (r : Bool) (w : World) (hG : GG w) (hr0_1 : Kd.C k42 w A0_1 l0_1.length l0_1) (hc0_1 : l0_1.length ≤ c0_1) (hr0_2 : Kd.C k25 w A0_2 l0_2.length l0_2) (hc0_2 : l0_2.length ≤ c0_2) (hr1_1 : Kd.C k42 w A1_1 l1_1.length l1_1) (hc1_1 : l1_1.length ≤ c1_1) (hr1_2 : Kd.C k25 w A1_2 l1_2.length l1_2) (hc1_2 : l1_2.length ≤ c1_2) (h : trystlaw11_Same.f k a0_0 l0_1 l0_2 a1_0 l1_1 l1_2 = some r),
  Calls Tryd.prog 8 #[.agg #[.string a0_0, .slice A0_1 l0_1.length c0_1, .slice A0_2 l0_2.length c0_2], .agg #[.string a1_0, .slice A1_1 l1_1.length c1_1, .slice A1_2 l1_2.length c1_2]] w fun e w' => e = .returned (.bool r) ∧ Below w.heap.size w w' := by
 induction k using Nat.strongRecOn with
 | _ k ih =>
 intro a0_0 A0_1 c0_1 l0_1 A0_2 c0_2 l0_2 a1_0 A1_1 c1_1 l1_1 A1_2 c1_2 l1_2 r w hG hr0_1 hc0_1 hr0_2 hc0_2 hr1_1 hc1_1 hr1_2 hc1_2 h
 cases k with
 | zero => exact absurd h (by simp [trystlaw11_Same.f])
 | succ k =>
 simp only [trystlaw11_Same.f] at h; have hu25 := Tryd.underlying25; have hu42 := Tryd.underlying42; have HR0_1 := Aside0.mk hr0_1; have HC0_1 := Aside0.mk hc0_1; clear hr0_1 hc0_1; have HR0_2 := Aside0.mk hr0_2; have HC0_2 := Aside0.mk hc0_2; clear hr0_2 hc0_2; have HR1_1 := Aside0.mk hr1_1; have HC1_1 := Aside0.mk hc1_1; clear hr1_1 hc1_1; have HR1_2 := Aside0.mk hr1_2; have HC1_2 := Aside0.mk hc1_2; clear hr1_2 hc1_2; have HB := Aside0.mk (Below.refl w.heap.size w); have H : (if a0_0.toList = a1_0.toList then (if (l0_1.length : Int) = (l1_1.length : Int) then (trystlaw11_Same.j0 k ((l0_2.length : Int) != (l1_2.length : Int)) a0_0 l0_1 l0_2 a1_0 l1_1 l1_2) else (trystlaw11_Same.j0 k true a0_0 l0_1 l0_2 a1_0 l1_1 l1_2)) else (trystlaw11_Same.j0 k true a0_0 l0_1 l0_2 a1_0 l1_1 l1_2)) = some r := h; clear h; have HC3 := Aside0.mk H; clear H
 go_enter Tryd.func8, Tryd.ntmps8
 go_upto_region 1 with (first | ((with_reducible refine gate_dst (N := 2) rfl ?_); (try (refine gate_guard (by rfl) ?_; dsimp only)); refine zbox (N := 2) #[.string a0_0, .slice A0_1 l0_1.length c0_1, .slice A0_2 l0_2.length c0_2] 25 (fun gb203 hg w4 hbox hb => ?_); have n0_ := zw hb; have n1_ := Aside0.mk hbox; have n2_ := zg w hg; have n3_ := zg w hg; clear HB; have HB := n0_; have BK203 := n1_; have GW203 := n2_; have GE203 := n3_; clear n0_ n1_ n2_ n3_; clear hb hbox hg) | ((with_reducible refine gate_dst (N := 3) rfl ?_); (try (refine gate_guard (by rfl) ?_; dsimp only)); refine zbox (N := 3) #[.string a1_0, .slice A1_1 l1_1.length c1_1, .slice A1_2 l1_2.length c1_2] 25 (fun gb204 hg w5 hbox hb => ?_); replace BK204 := Aside0.mk hbox; replace GW204 := zg w hg; replace GE204 := zg w hg; replace HB := zw hb; replace NB203_204 := zn BK203 hg; replace NB204_203 := zm BK203 hg; replace BK203 := zb BK203 hb; clear hb hbox hg))
 (try simp only [Act.put, List.setIfInBounds_toArray, List.set_cons_zero, List.set_cons_succ])
 go_cut [29] (fun v29 wc => ∃ (kq : Nat) (x29_2 : Bool), v29 = .bool x29_2 ∧ Aside0 (trystlaw11_Same.j0 kq x29_2 a0_0 l0_1 l0_2 a1_0 l1_1 l1_2 = some r) ∧ Aside0 (kq ≤ k) ∧ Aside0 (wc.heap[gb203]? = some (.cells #[.string a0_0, (.slice A0_1 l0_1.length c0_1), (.slice A0_2 l0_2.length c0_2)] 25 (0, 0))) ∧ Aside0 (wc.heap[gb204]? = some (.cells #[.string a1_0, (.slice A1_1 l1_1.length c1_1), (.slice A1_2 l1_2.length c1_2)] 25 (0, 0))) ∧ Aside0 (Below w.heap.size w wc))
 case first =>
  have H := HC3.out; clear HC3; replace H := zIe H; rcases H with ⟨-, c6b0, c6b1, H⟩ | ⟨c6, c6b0, c6b1, H⟩
  ·(first | rw [c6b0] | (simp only [i64_w, i32_w]; rw [c6b0]) | skip)
   replace H := zIe H; rcases H with ⟨c7, c7b0, c7b1, H⟩ | ⟨c7, c7b0, c7b1, H⟩
   ·have c7b2 : (l0_1.length == l1_1.length) = true := by first | simpa using c7 | (simp at c7 ⊢; omega)
    clear c7; have H' := Aside0.mk H; clear H; have hnb8 := NB203_204.out; have hnc8 := NB204_203.out; have hcz9_0 := zc0 BK203; have hcz9_1 := zc1 BK203; have hcz9_2 := zc2 BK203; have hfz9_0 := zf BK203 0; have hfz9_1 := zf BK203 1; have hfz9_2 := zf BK203 2; have hcz10_0 := zc0 BK204; have hcz10_1 := zc1 BK204; have hcz10_2 := zc2 BK204
    have hfz10_0 := zf BK204 0; have hfz10_1 := zf BK204 1; have hfz10_2 := zf BK204 2; go_wp2
    go_meet
    case rel => exact ⟨_, (((l0_2.length : Int) != (l1_2.length : Int))), zS, H', ⟨by first | omega | exact Nat.le_refl _⟩, ⟨blk_below BK203.out zX⟩, ⟨blk_below BK204.out zX⟩, ⟨zB⟩⟩
   ·have c7b2 : (l0_1.length == l1_1.length) = false := by first | simpa using c7 | (simp at c7 ⊢; omega)
    have H' := Aside0.mk H; clear H; have hnb11 := NB203_204.out; have hnc11 := NB204_203.out; have hcz12_0 := zc0 BK203; have hcz12_1 := zc1 BK203; have hcz12_2 := zc2 BK203; have hfz12_0 := zf BK203 0; have hfz12_1 := zf BK203 1; have hfz12_2 := zf BK203 2; have hcz13_0 := zc0 BK204; have hcz13_1 := zc1 BK204; have hcz13_2 := zc2 BK204
    have hfz13_0 := zf BK204 0; have hfz13_1 := zf BK204 1; have hfz13_2 := zf BK204 2; go_wp2
    go_meet
    case rel => exact ⟨_, (true), zS, H', ⟨by first | omega | exact Nat.le_refl _⟩, ⟨blk_below BK203.out zX⟩, ⟨blk_below BK204.out zX⟩, ⟨zB⟩⟩
  ·(first | rw [c6b0] | (simp only [i64_w, i32_w]; rw [c6b0]) | skip)
   have H' := Aside0.mk H; clear H; have hnb14 := NB203_204.out; have hnc14 := NB204_203.out; have hcz15_0 := zc0 BK203; have hcz15_1 := zc1 BK203; have hcz15_2 := zc2 BK203; have hfz15_0 := zf BK203 0; have hfz15_1 := zf BK203 1; have hfz15_2 := zf BK203 2; have hcz16_0 := zc0 BK204; have hcz16_1 := zc1 BK204; have hcz16_2 := zc2 BK204
   have hfz16_0 := zf BK204 0; have hfz16_1 := zf BK204 1; have hfz16_2 := zf BK204 2; go_wp2
   go_meet
   case rel => exact ⟨_, (true), zS, H', ⟨by first | omega | exact Nat.le_refl _⟩, ⟨blk_below BK203.out zX⟩, ⟨blk_below BK204.out zX⟩, ⟨zB⟩⟩
 case rest =>
  clear HC3; obtain ⟨kq, x29_2, rfl, HA, HJ2, BK203, BK204, HB⟩ := hcut
  cases kq with
  | zero => exact absurd HA.out (by simp [trystlaw11_Same.j0])
  | succ kj2 =>
   have H := HA.out; clear HA; simp only [trystlaw11_Same.j0] at H; replace H := zIb H; rcases H with ⟨rfl, H⟩ | ⟨rfl, H⟩
   ·obtain rfl := Option.some.inj H; go_wp2; go_ret; exact ⟨zE, zB⟩
   ·have H' := Aside0.mk H; clear H; have hnb18 := NB203_204.out; have hnc18 := NB204_203.out; have hcz19_0 := zc0 BK203; have hcz19_1 := zc1 BK203; have hcz19_2 := zc2 BK203; have hfz19_0 := zf BK203 0; have hfz19_1 := zf BK203 1; have hfz19_2 := zf BK203 2; go_wp2
    go_loopg [33] kj2 (fun kq v33 w' => ∃ (x33_2 : Int), v33 = .int .i64 x33_2 ∧ Aside0 (trystlaw11_Same.l0 kq (l0_1.length : Int) x33_2 a0_0 l0_1 l0_2 a1_0 l1_1 l1_2 = some r) ∧ Aside0 (kq ≤ kj2) ∧ Aside0 (w'.heap[gb203]? = some (.cells #[.string a0_0, (.slice A0_1 l0_1.length c0_1), (.slice A0_2 l0_2.length c0_2)] 25 (0, 0))) ∧ Aside0 (w'.heap[gb204]? = some (.cells #[.string a1_0, (.slice A1_1 l1_1.length c1_1), (.slice A1_2 l1_2.length c1_2)] 25 (0, 0))) ∧ Aside0 (Below w.heap.size w w'))
    case atStart => exact ⟨(0), zS, H', ⟨Nat.le_refl _⟩, ⟨blk_below BK203.out zX⟩, ⟨blk_below BK204.out zX⟩, ⟨zB⟩⟩
    case round =>
     clear H'; clear hcz19_0 hcz19_1 hcz19_2 hfz19_0 hfz19_1 hfz19_2; obtain ⟨x33_2, rfl, HA, HK2, BK203, BK204, HB⟩ := hrel
     cases gk with
     | zero => exact absurd HA.out (by simp [trystlaw11_Same.l0])
     | succ k2 =>
      have H := HA.out; clear HA; simp only [trystlaw11_Same.l0] at H; replace H := zId H; rcases H with ⟨-, c20b0, H⟩ | ⟨-, c20b0, H⟩
      ·replace H := zJd H; obtain ⟨-, c21b0, H⟩ := H; replace H := zJd H; obtain ⟨-, c22b0, H⟩ := H; replace H := zJd H; obtain ⟨-, c23b0, H⟩ := H; replace H := Option.bind_eq_some_iff.mp H; obtain ⟨t207, A240, H⟩ := H; replace H : (if t207 = true then (trystlaw11_Same.l0 k2 (l0_1.length : Int) (wrap64 (x33_2 + 1)) a0_0 l0_1 l0_2 a1_0 l1_1 l1_2) else (some false)) = some r := H; have A24 := Aside0.mk A240; clear A240; replace H := zIb H; rcases H with ⟨rfl, H⟩ | ⟨rfl, H⟩
       ·have H' := Aside0.mk H; clear H
        try go_wp2
        replace BK203 := Aside0.mk (blk_drew BK203.out); replace BK204 := Aside0.mk (blk_drew BK204.out); replace HB := Aside0.mk (below_drew1 HB.out); have p205 := zQ (0 ≤ (x33_2 : Int)); have q205 := zQ (x33_2 < (l0_1.length : Int)); obtain ⟨ad205, A205_1, c205_1, e205, hx205_0, hx205_1, hx205_2, hl205_1, hi205_1⟩ := at_T42 HR0_1.out x33_2 p205 q205; have hw205_2 := hx205_2; have hw205_1 := hx205_1; have hw205_0 := hx205_0
        cases e205
        replace hx205_0 := zx HB hx205_0; replace hx205_1 := zx HB hx205_1; replace hx205_2 := zx HB hx205_2; have HR205_1 := Aside0.mk hi205_1; have HC205_1 := Aside0.mk hl205_1; clear hi205_1 hl205_1; replace p205 := eq_true p205; replace q205 := eq_true q205; have p206 := zQ (0 ≤ (x33_2 : Int)); have q206 := zQ (x33_2 < (l1_1.length : Int)); obtain ⟨ad206, A206_1, c206_1, e206, hx206_0, hx206_1, hx206_2, hl206_1, hi206_1⟩ := at_T42 HR1_1.out x33_2 p206 q206; have hw206_2 := hx206_2; have hw206_1 := hx206_1; have hw206_0 := hx206_0
        cases e206
        replace hx206_0 := zx HB hx206_0; replace hx206_1 := zx HB hx206_1; replace hx206_2 := zx HB hx206_2; have HR206_1 := Aside0.mk hi206_1; have HC206_1 := Aside0.mk hl206_1; clear hi206_1 hl206_1; replace p206 := eq_true p206; replace q206 := eq_true q206
        refine start_ (n := 12) (S := fun w' => w'.cell? ⟨gb203, 0, none⟩ = some (.string a0_0) ∧ w'.cell? ⟨gb203, 1, none⟩ = some (.slice (some ad205) l0_1.length c0_1) ∧ w'.cell? ⟨gb203, 2, none⟩ = some (.slice A0_2 l0_2.length c0_2) ∧ w'.cell? ⟨gb204, 0, none⟩ = some (.string a1_0) ∧ w'.cell? ⟨gb204, 1, none⟩ = some (.slice (some ad206) l1_1.length c1_1) ∧ w'.cell? ⟨gb204, 2, none⟩ = some (.slice A1_2 l1_2.length c1_2) ∧ w'.cell? (ad205.add ((x33_2).toNat * 3)) = some (.string ((rd_T42 l0_1 x33_2).f0)) ∧ w'.cell? ⟨(ad205.add ((x33_2).toNat * 3)).block, (ad205.add ((x33_2).toNat * 3)).off + 1, none⟩ = some (.slice A205_1 ((rd_T42 l0_1 x33_2).f1).length c205_1) ∧ w'.cell? ⟨(ad205.add ((x33_2).toNat * 3)).block, (ad205.add ((x33_2).toNat * 3)).off + 2, none⟩ = some (.string ((rd_T42 l0_1 x33_2).f2)) ∧ w'.cell? (ad206.add ((x33_2).toNat * 3)) = some (.string ((rd_T42 l1_1 x33_2).f0)) ∧ w'.cell? ⟨(ad206.add ((x33_2).toNat * 3)).block, (ad206.add ((x33_2).toNat * 3)).off + 1, none⟩ = some (.slice A206_1 ((rd_T42 l1_1 x33_2).f1).length c206_1) ∧ w'.cell? ⟨(ad206.add ((x33_2).toNat * 3)).block, (ad206.add ((x33_2).toNat * 3)).off + 2, none⟩ = some (.string ((rd_T42 l1_1 x33_2).f2))) (ds := []) #[false, false, false, false, false, false, false, false, false, false, false, false] (by kernel_rfl) rfl rfl ⟨(blk_cell BK203.out 0).trans rfl, (blk_cell BK203.out 1).trans rfl, (blk_cell BK203.out 2).trans rfl, (blk_cell BK204.out 0).trans rfl, (blk_cell BK204.out 1).trans rfl, (blk_cell BK204.out 2).trans rfl, (zx HB hw205_0), (zx HB hw205_1), (zx HB hw205_2), (zx HB hw206_0), (zx HB hw206_1), (zx HB hw206_2)⟩ (fun hHeld => ?_); refine with_tabW trystlaw11_Same.tab6 trystlaw11_Same.bits6 (fun HT_ HW_ => ?_)
        generalize wr.drew = w26 at BK203 BK204 HB HR205_1 HR206_1 hx205_0 hx205_1 hx205_2 hx206_0 hx206_1 hx206_2 hHeld ⊢; refine pure_ (i := 0) (N := some 36) (v := ?_) (a' := ?_) #[true, false, false, false, false, false, false, false, false, false, false, false] rfl rfl (any_of HT_.out (by kernel_rfl)) (fun _ _ _ h => h) (Or.inl ⟨by rfl, ?_⟩) ?_ ?_; rotate_left
        ·intro w'; go_simp; with_reducible rfl
        rotate_left
        ·simp only [Act.put, List.setIfInBounds_toArray, List.set_cons_zero, List.set_cons_succ, i64_w, i32_w]; rfl
        refine pure_ (i := 2) (N := some 38) (v := ?_) (a' := ?_) #[true, false, true, false, false, false, false, false, false, false, false, false] rfl rfl (any_of HT_.out (by kernel_rfl)) (fun _ _ _ h => h) (Or.inl ⟨by rfl, ?_⟩) ?_ ?_; rotate_left
        ·intro w'; go_simp; with_reducible rfl
        rotate_left
        ·simp only [Act.put, List.setIfInBounds_toArray, List.set_cons_zero, List.set_cons_succ, i64_w, i32_w]; rfl
        refine pure_ (i := 5) (N := some 41) (v := ?_) (a' := ?_) #[true, false, true, false, false, true, false, false, false, false, false, false] rfl rfl (any_of HT_.out (by kernel_rfl)) (fun _ _ _ h => h) (Or.inl ⟨by rfl, ?_⟩) ?_ ?_; rotate_left
        ·intro w'; go_simp; with_reducible rfl
        rotate_left
        ·simp only [Act.put, List.setIfInBounds_toArray, List.set_cons_zero, List.set_cons_succ, i64_w, i32_w]; rfl
        refine pure_ (i := 7) (N := some 43) (v := ?_) (a' := ?_) #[true, false, true, false, false, true, false, true, false, false, false, false] rfl rfl (any_of HT_.out (by kernel_rfl)) (fun _ _ _ h => h) (Or.inl ⟨by rfl, ?_⟩) ?_ ?_; rotate_left
        ·intro w'; go_simp; with_reducible rfl
        rotate_left
        ·simp only [Act.put, List.setIfInBounds_toArray, List.set_cons_zero, List.set_cons_succ, i64_w, i32_w]; rfl
        refine take_ (i := 1) (N := some 37) (v := ?_) (a' := ?_) #[true, true, true, false, false, true, false, true, false, false, false, false] rfl rfl (take_ofW HT_.out HW_.out (by kernel_rfl)) (fun _ _ _ h => h) (Or.inl ⟨by rfl, ?_⟩) hHeld ?_ ?_; rotate_left
        ·rintro w' ⟨s0, s1, s2, s3, s4, s5, s6, s7, s8, s9, s10, s11⟩; go_simp; with_reducible rfl
        rotate_left
        ·simp only [Act.put, List.setIfInBounds_toArray, List.set_cons_zero, List.set_cons_succ, i64_w, i32_w]; rfl
        refine pure_ (i := 3) (N := some 39) (v := ?_) (a' := ?_) #[true, true, true, true, false, true, false, true, false, false, false, false] rfl rfl (any_of HT_.out (by kernel_rfl)) (fun _ _ _ h => h) (Or.inl ⟨by rfl, ?_⟩) ?_ ?_; rotate_left
        ·intro w'; go_simp; with_reducible rfl
        rotate_left
        ·simp only [Act.put, List.setIfInBounds_toArray, List.set_cons_zero, List.set_cons_succ, i64_w, i32_w]; rfl
        refine take_ (i := 4) (N := some 40) (v := ?_) (a' := ?_) #[true, true, true, true, true, true, false, true, false, false, false, false] rfl rfl (take_ofW HT_.out HW_.out (by kernel_rfl)) (fun _ _ _ h => h) (Or.inl ⟨by rfl, ?_⟩) hHeld ?_ ?_; rotate_left
        ·rintro w' ⟨s0, s1, s2, s3, s4, s5, s6, s7, s8, s9, s10, s11⟩; go_simp; with_reducible rfl
        rotate_left
        ·simp only [Act.put, List.setIfInBounds_toArray, List.set_cons_zero, List.set_cons_succ, i64_w, i32_w]; rfl
        refine take_ (i := 6) (N := some 42) (v := ?_) (a' := ?_) #[true, true, true, true, true, true, true, true, false, false, false, false] rfl rfl (take_ofW HT_.out HW_.out (by kernel_rfl)) (fun _ _ _ h => h) (Or.inl ⟨by rfl, ?_⟩) hHeld ?_ ?_; rotate_left
        ·rintro w' ⟨s0, s1, s2, s3, s4, s5, s6, s7, s8, s9, s10, s11⟩; go_simp; with_reducible rfl
        rotate_left
        ·simp only [Act.put, List.setIfInBounds_toArray, List.set_cons_zero, List.set_cons_succ, i64_w, i32_w]; rfl
        refine pure_ (i := 8) (N := some 44) (v := ?_) (a' := ?_) #[true, true, true, true, true, true, true, true, true, false, false, false] rfl rfl (any_of HT_.out (by kernel_rfl)) (fun _ _ _ h => h) (Or.inl ⟨by rfl, ?_⟩) ?_ ?_; rotate_left
        ·intro w'; go_simp; with_reducible rfl
        rotate_left
        ·simp only [Act.put, List.setIfInBounds_toArray, List.set_cons_zero, List.set_cons_succ, i64_w, i32_w]; rfl
        refine take_ (i := 9) (N := some 45) (v := ?_) (a' := ?_) #[true, true, true, true, true, true, true, true, true, true, false, false] rfl rfl (take_ofW HT_.out HW_.out (by kernel_rfl)) (fun _ _ _ h => h) (Or.inl ⟨by rfl, ?_⟩) hHeld ?_ ?_; rotate_left
        ·rintro w' ⟨s0, s1, s2, s3, s4, s5, s6, s7, s8, s9, s10, s11⟩; go_simp; with_reducible rfl
        rotate_left
        ·simp only [Act.put, List.setIfInBounds_toArray, List.set_cons_zero, List.set_cons_succ, i64_w, i32_w]; rfl
        refine one_ (i := 10) (N := some 46) #[true, true, true, true, true, true, true, true, true, true, true, false] rfl rfl (one_of HT_.out (by kernel_rfl)) (by decide) (fun K hK => ?_); refine goes_ Tryd.func11 (by kernel_rfl) rfl #[.agg #[.string ((rd_T42 l0_1 x33_2).f0), .slice A205_1 ((rd_T42 l0_1 x33_2).f1).length c205_1, .string ((rd_T42 l0_1 x33_2).f2)], .agg #[.string ((rd_T42 l1_1 x33_2).f0), .slice A206_1 ((rd_T42 l1_1 x33_2).f1).length c206_1, .string ((rd_T42 l1_1 x33_2).f2)]] (by rfl) rfl rfl zA ?_
        with_reducible refine (trystlaw10_Same.calls k2 ((rd_T42 l0_1 x33_2).f0) _ _ ((rd_T42 l0_1 x33_2).f1) ((rd_T42 l0_1 x33_2).f2) ((rd_T42 l1_1 x33_2).f0) _ _ ((rd_T42 l1_1 x33_2).f1) ((rd_T42 l1_1 x33_2).f2) true _ zG ?side1 ?side2 ?side3 ?side4 A24.out).mono ?_
        (case side1 => exact Kd.C_below (Kd.C_below HR205_1.out HB.out) zX)
        (case side2 => exact HC205_1.out)
        (case side3 => exact Kd.C_below (Kd.C_below HR206_1.out HB.out) zX)
        (case side4 => exact HC206_1.out)
        rintro e w27 ⟨rfl, hb⟩; refine ⟨_, rfl, ?_⟩; replace BK203 := zb BK203 hb; replace BK204 := zb BK204 hb; replace HB := zw hb; (try clear hb); (try clear hb2); (try clear hk); (try clear hi)
        refine hK.out _ _ ⟨(blk_cell BK203.out 0).trans rfl, (blk_cell BK203.out 1).trans rfl, (blk_cell BK203.out 2).trans rfl, (blk_cell BK204.out 0).trans rfl, (blk_cell BK204.out 1).trans rfl, (blk_cell BK204.out 2).trans rfl, (zx HB hw205_0), (zx HB hw205_1), (zx HB hw205_2), (zx HB hw206_0), (zx HB hw206_1), (zx HB hw206_2)⟩ (fun hHeld => ?_); clear hK K; refine norm_ (a' := ?_) ?_ ?_; rotate_left
        ·show Act.put _ (some 46) _ = _
         simp only [Act.put, List.setIfInBounds_toArray, List.set_cons_zero, List.set_cons_succ, i64_w, i32_w]; rfl
        refine pure_ (i := 11) (N := some 47) (v := ?_) (a' := ?_) #[true, true, true, true, true, true, true, true, true, true, true, true] rfl rfl (any_of HT_.out (by kernel_rfl)) (fun _ _ _ h => h) (Or.inl ⟨by rfl, ?_⟩) ?_ ?_; rotate_left
        ·intro w'; go_simp; with_reducible rfl
        rotate_left
        ·simp only [Act.put, List.setIfInBounds_toArray, List.set_cons_zero, List.set_cons_succ, i64_w, i32_w]; rfl
        refine done_ (done_of HT_.out (by kernel_rfl)) ?_
        try go_wp2
        go_roundg k2
        case measure => have := HJ2.out; have := HK2.out; omega
        case rel => exact ⟨(wrap64 (x33_2 + 1)), zS, H', ⟨by have := HJ2.out; have := HK2.out; omega⟩, ⟨blk_below BK203.out zX⟩, ⟨blk_below BK204.out zX⟩, ⟨zB⟩⟩
       ·obtain rfl := Option.some.inj H
        try go_wp2
        replace BK203 := Aside0.mk (blk_drew BK203.out); replace BK204 := Aside0.mk (blk_drew BK204.out); replace HB := Aside0.mk (below_drew1 HB.out); have p205 := zQ (0 ≤ (x33_2 : Int)); have q205 := zQ (x33_2 < (l0_1.length : Int)); obtain ⟨ad205, A205_1, c205_1, e205, hx205_0, hx205_1, hx205_2, hl205_1, hi205_1⟩ := at_T42 HR0_1.out x33_2 p205 q205; have hw205_2 := hx205_2; have hw205_1 := hx205_1; have hw205_0 := hx205_0
        cases e205
        replace hx205_0 := zx HB hx205_0; replace hx205_1 := zx HB hx205_1; replace hx205_2 := zx HB hx205_2; have HR205_1 := Aside0.mk hi205_1; have HC205_1 := Aside0.mk hl205_1; clear hi205_1 hl205_1; replace p205 := eq_true p205; replace q205 := eq_true q205; have p206 := zQ (0 ≤ (x33_2 : Int)); have q206 := zQ (x33_2 < (l1_1.length : Int)); obtain ⟨ad206, A206_1, c206_1, e206, hx206_0, hx206_1, hx206_2, hl206_1, hi206_1⟩ := at_T42 HR1_1.out x33_2 p206 q206; have hw206_2 := hx206_2; have hw206_1 := hx206_1; have hw206_0 := hx206_0
        cases e206
        replace hx206_0 := zx HB hx206_0; replace hx206_1 := zx HB hx206_1; replace hx206_2 := zx HB hx206_2; have HR206_1 := Aside0.mk hi206_1; have HC206_1 := Aside0.mk hl206_1; clear hi206_1 hl206_1; replace p206 := eq_true p206; replace q206 := eq_true q206
        refine start_ (n := 12) (S := fun w' => w'.cell? ⟨gb203, 0, none⟩ = some (.string a0_0) ∧ w'.cell? ⟨gb203, 1, none⟩ = some (.slice (some ad205) l0_1.length c0_1) ∧ w'.cell? ⟨gb203, 2, none⟩ = some (.slice A0_2 l0_2.length c0_2) ∧ w'.cell? ⟨gb204, 0, none⟩ = some (.string a1_0) ∧ w'.cell? ⟨gb204, 1, none⟩ = some (.slice (some ad206) l1_1.length c1_1) ∧ w'.cell? ⟨gb204, 2, none⟩ = some (.slice A1_2 l1_2.length c1_2) ∧ w'.cell? (ad205.add ((x33_2).toNat * 3)) = some (.string ((rd_T42 l0_1 x33_2).f0)) ∧ w'.cell? ⟨(ad205.add ((x33_2).toNat * 3)).block, (ad205.add ((x33_2).toNat * 3)).off + 1, none⟩ = some (.slice A205_1 ((rd_T42 l0_1 x33_2).f1).length c205_1) ∧ w'.cell? ⟨(ad205.add ((x33_2).toNat * 3)).block, (ad205.add ((x33_2).toNat * 3)).off + 2, none⟩ = some (.string ((rd_T42 l0_1 x33_2).f2)) ∧ w'.cell? (ad206.add ((x33_2).toNat * 3)) = some (.string ((rd_T42 l1_1 x33_2).f0)) ∧ w'.cell? ⟨(ad206.add ((x33_2).toNat * 3)).block, (ad206.add ((x33_2).toNat * 3)).off + 1, none⟩ = some (.slice A206_1 ((rd_T42 l1_1 x33_2).f1).length c206_1) ∧ w'.cell? ⟨(ad206.add ((x33_2).toNat * 3)).block, (ad206.add ((x33_2).toNat * 3)).off + 2, none⟩ = some (.string ((rd_T42 l1_1 x33_2).f2))) (ds := []) #[false, false, false, false, false, false, false, false, false, false, false, false] (by kernel_rfl) rfl rfl ⟨(blk_cell BK203.out 0).trans rfl, (blk_cell BK203.out 1).trans rfl, (blk_cell BK203.out 2).trans rfl, (blk_cell BK204.out 0).trans rfl, (blk_cell BK204.out 1).trans rfl, (blk_cell BK204.out 2).trans rfl, (zx HB hw205_0), (zx HB hw205_1), (zx HB hw205_2), (zx HB hw206_0), (zx HB hw206_1), (zx HB hw206_2)⟩ (fun hHeld => ?_); refine with_tabW trystlaw11_Same.tab6 trystlaw11_Same.bits6 (fun HT_ HW_ => ?_)
        generalize wr.drew = w28 at BK203 BK204 HB HR205_1 HR206_1 hx205_0 hx205_1 hx205_2 hx206_0 hx206_1 hx206_2 hHeld ⊢; refine pure_ (i := 0) (N := some 36) (v := ?_) (a' := ?_) #[true, false, false, false, false, false, false, false, false, false, false, false] rfl rfl (any_of HT_.out (by kernel_rfl)) (fun _ _ _ h => h) (Or.inl ⟨by rfl, ?_⟩) ?_ ?_; rotate_left
        ·intro w'; go_simp; with_reducible rfl
        rotate_left
        ·simp only [Act.put, List.setIfInBounds_toArray, List.set_cons_zero, List.set_cons_succ, i64_w, i32_w]; rfl
        refine pure_ (i := 2) (N := some 38) (v := ?_) (a' := ?_) #[true, false, true, false, false, false, false, false, false, false, false, false] rfl rfl (any_of HT_.out (by kernel_rfl)) (fun _ _ _ h => h) (Or.inl ⟨by rfl, ?_⟩) ?_ ?_; rotate_left
        ·intro w'; go_simp; with_reducible rfl
        rotate_left
        ·simp only [Act.put, List.setIfInBounds_toArray, List.set_cons_zero, List.set_cons_succ, i64_w, i32_w]; rfl
        refine pure_ (i := 5) (N := some 41) (v := ?_) (a' := ?_) #[true, false, true, false, false, true, false, false, false, false, false, false] rfl rfl (any_of HT_.out (by kernel_rfl)) (fun _ _ _ h => h) (Or.inl ⟨by rfl, ?_⟩) ?_ ?_; rotate_left
        ·intro w'; go_simp; with_reducible rfl
        rotate_left
        ·simp only [Act.put, List.setIfInBounds_toArray, List.set_cons_zero, List.set_cons_succ, i64_w, i32_w]; rfl
        refine pure_ (i := 7) (N := some 43) (v := ?_) (a' := ?_) #[true, false, true, false, false, true, false, true, false, false, false, false] rfl rfl (any_of HT_.out (by kernel_rfl)) (fun _ _ _ h => h) (Or.inl ⟨by rfl, ?_⟩) ?_ ?_; rotate_left
        ·intro w'; go_simp; with_reducible rfl
        rotate_left
        ·simp only [Act.put, List.setIfInBounds_toArray, List.set_cons_zero, List.set_cons_succ, i64_w, i32_w]; rfl
        refine take_ (i := 1) (N := some 37) (v := ?_) (a' := ?_) #[true, true, true, false, false, true, false, true, false, false, false, false] rfl rfl (take_ofW HT_.out HW_.out (by kernel_rfl)) (fun _ _ _ h => h) (Or.inl ⟨by rfl, ?_⟩) hHeld ?_ ?_; rotate_left
        ·rintro w' ⟨s0, s1, s2, s3, s4, s5, s6, s7, s8, s9, s10, s11⟩; go_simp; with_reducible rfl
        rotate_left
        ·simp only [Act.put, List.setIfInBounds_toArray, List.set_cons_zero, List.set_cons_succ, i64_w, i32_w]; rfl
        refine pure_ (i := 3) (N := some 39) (v := ?_) (a' := ?_) #[true, true, true, true, false, true, false, true, false, false, false, false] rfl rfl (any_of HT_.out (by kernel_rfl)) (fun _ _ _ h => h) (Or.inl ⟨by rfl, ?_⟩) ?_ ?_; rotate_left
        ·intro w'; go_simp; with_reducible rfl
        rotate_left
        ·simp only [Act.put, List.setIfInBounds_toArray, List.set_cons_zero, List.set_cons_succ, i64_w, i32_w]; rfl
        refine take_ (i := 4) (N := some 40) (v := ?_) (a' := ?_) #[true, true, true, true, true, true, false, true, false, false, false, false] rfl rfl (take_ofW HT_.out HW_.out (by kernel_rfl)) (fun _ _ _ h => h) (Or.inl ⟨by rfl, ?_⟩) hHeld ?_ ?_; rotate_left
        ·rintro w' ⟨s0, s1, s2, s3, s4, s5, s6, s7, s8, s9, s10, s11⟩; go_simp; with_reducible rfl
        rotate_left
        ·simp only [Act.put, List.setIfInBounds_toArray, List.set_cons_zero, List.set_cons_succ, i64_w, i32_w]; rfl
        refine take_ (i := 6) (N := some 42) (v := ?_) (a' := ?_) #[true, true, true, true, true, true, true, true, false, false, false, false] rfl rfl (take_ofW HT_.out HW_.out (by kernel_rfl)) (fun _ _ _ h => h) (Or.inl ⟨by rfl, ?_⟩) hHeld ?_ ?_; rotate_left
        ·rintro w' ⟨s0, s1, s2, s3, s4, s5, s6, s7, s8, s9, s10, s11⟩; go_simp; with_reducible rfl
        rotate_left
        ·simp only [Act.put, List.setIfInBounds_toArray, List.set_cons_zero, List.set_cons_succ, i64_w, i32_w]; rfl
        refine pure_ (i := 8) (N := some 44) (v := ?_) (a' := ?_) #[true, true, true, true, true, true, true, true, true, false, false, false] rfl rfl (any_of HT_.out (by kernel_rfl)) (fun _ _ _ h => h) (Or.inl ⟨by rfl, ?_⟩) ?_ ?_; rotate_left
        ·intro w'; go_simp; with_reducible rfl
        rotate_left
        ·simp only [Act.put, List.setIfInBounds_toArray, List.set_cons_zero, List.set_cons_succ, i64_w, i32_w]; rfl
        refine take_ (i := 9) (N := some 45) (v := ?_) (a' := ?_) #[true, true, true, true, true, true, true, true, true, true, false, false] rfl rfl (take_ofW HT_.out HW_.out (by kernel_rfl)) (fun _ _ _ h => h) (Or.inl ⟨by rfl, ?_⟩) hHeld ?_ ?_; rotate_left
        ·rintro w' ⟨s0, s1, s2, s3, s4, s5, s6, s7, s8, s9, s10, s11⟩; go_simp; with_reducible rfl
        rotate_left
        ·simp only [Act.put, List.setIfInBounds_toArray, List.set_cons_zero, List.set_cons_succ, i64_w, i32_w]; rfl
        refine one_ (i := 10) (N := some 46) #[true, true, true, true, true, true, true, true, true, true, true, false] rfl rfl (one_of HT_.out (by kernel_rfl)) (by decide) (fun K hK => ?_); refine goes_ Tryd.func11 (by kernel_rfl) rfl #[.agg #[.string ((rd_T42 l0_1 x33_2).f0), .slice A205_1 ((rd_T42 l0_1 x33_2).f1).length c205_1, .string ((rd_T42 l0_1 x33_2).f2)], .agg #[.string ((rd_T42 l1_1 x33_2).f0), .slice A206_1 ((rd_T42 l1_1 x33_2).f1).length c206_1, .string ((rd_T42 l1_1 x33_2).f2)]] (by rfl) rfl rfl zA ?_
        with_reducible refine (trystlaw10_Same.calls k2 ((rd_T42 l0_1 x33_2).f0) _ _ ((rd_T42 l0_1 x33_2).f1) ((rd_T42 l0_1 x33_2).f2) ((rd_T42 l1_1 x33_2).f0) _ _ ((rd_T42 l1_1 x33_2).f1) ((rd_T42 l1_1 x33_2).f2) false _ zG ?side1 ?side2 ?side3 ?side4 A24.out).mono ?_
        (case side1 => exact Kd.C_below (Kd.C_below HR205_1.out HB.out) zX)
        (case side2 => exact HC205_1.out)
        (case side3 => exact Kd.C_below (Kd.C_below HR206_1.out HB.out) zX)
        (case side4 => exact HC206_1.out)
        rintro e w29 ⟨rfl, hb⟩; refine ⟨_, rfl, ?_⟩; replace BK203 := zb BK203 hb; replace BK204 := zb BK204 hb; replace HB := zw hb; (try clear hb); (try clear hb2); (try clear hk); (try clear hi)
        refine hK.out _ _ ⟨(blk_cell BK203.out 0).trans rfl, (blk_cell BK203.out 1).trans rfl, (blk_cell BK203.out 2).trans rfl, (blk_cell BK204.out 0).trans rfl, (blk_cell BK204.out 1).trans rfl, (blk_cell BK204.out 2).trans rfl, (zx HB hw205_0), (zx HB hw205_1), (zx HB hw205_2), (zx HB hw206_0), (zx HB hw206_1), (zx HB hw206_2)⟩ (fun hHeld => ?_); clear hK K; refine norm_ (a' := ?_) ?_ ?_; rotate_left
        ·show Act.put _ (some 46) _ = _
         simp only [Act.put, List.setIfInBounds_toArray, List.set_cons_zero, List.set_cons_succ, i64_w, i32_w]; rfl
        refine pure_ (i := 11) (N := some 47) (v := ?_) (a' := ?_) #[true, true, true, true, true, true, true, true, true, true, true, true] rfl rfl (any_of HT_.out (by kernel_rfl)) (fun _ _ _ h => h) (Or.inl ⟨by rfl, ?_⟩) ?_ ?_; rotate_left
        ·intro w'; go_simp; with_reducible rfl
        rotate_left
        ·simp only [Act.put, List.setIfInBounds_toArray, List.set_cons_zero, List.set_cons_succ, i64_w, i32_w]; rfl
        refine done_ (done_of HT_.out (by kernel_rfl)) ?_
        try go_wp2
        go_ret; exact ⟨zE, zB⟩
      ·have H' := Aside0.mk H; clear H; have hnb30 := NB203_204.out; have hnc30 := NB204_203.out; have hcz31_0 := zc0 BK203; have hcz31_1 := zc1 BK203; have hcz31_2 := zc2 BK203; have hfz31_0 := zf BK203 0; have hfz31_1 := zf BK203 1; have hfz31_2 := zf BK203 2; go_wp2
       go_loopg [52] k2 (fun kq v52 w' => ∃ (x52_3 : Int), v52 = .int .i64 x52_3 ∧ Aside0 (trystlaw11_Same.l1 kq (l0_2.length : Int) x52_3 a0_0 l0_1 l0_2 a1_0 l1_1 l1_2 = some r) ∧ Aside0 (kq ≤ k2) ∧ Aside0 (w'.heap[gb203]? = some (.cells #[.string a0_0, (.slice A0_1 l0_1.length c0_1), (.slice A0_2 l0_2.length c0_2)] 25 (0, 0))) ∧ Aside0 (w'.heap[gb204]? = some (.cells #[.string a1_0, (.slice A1_1 l1_1.length c1_1), (.slice A1_2 l1_2.length c1_2)] 25 (0, 0))) ∧ Aside0 (Below w.heap.size w w'))
       case atStart => exact ⟨(0), zS, H', ⟨Nat.le_refl _⟩, ⟨blk_below BK203.out zX⟩, ⟨blk_below BK204.out zX⟩, ⟨zB⟩⟩
       case round =>
        clear H'; clear c20b0 hcz31_0 hcz31_1 hcz31_2 hfz31_0 hfz31_1 hfz31_2; obtain ⟨x52_3, rfl, HA, HK3, BK203, BK204, HB⟩ := hrel
        cases gk with
        | zero => exact absurd HA.out (by simp [trystlaw11_Same.l1])
        | succ k3 =>
         have H := HA.out; clear HA; simp only [trystlaw11_Same.l1] at H; replace H := zId H; rcases H with ⟨-, c32b0, H⟩ | ⟨-, c32b0, H⟩
         ·replace H := zJd H; obtain ⟨-, c33b0, H⟩ := H; replace H := zJd H; obtain ⟨-, c34b0, H⟩ := H; replace H := zJd H; obtain ⟨-, c35b0, H⟩ := H; replace H := Option.bind_eq_some_iff.mp H; obtain ⟨t210, A360, H⟩ := H; replace H : (if t210 = true then (trystlaw11_Same.l1 k3 (l0_2.length : Int) (wrap64 (x52_3 + 1)) a0_0 l0_1 l0_2 a1_0 l1_1 l1_2) else (some false)) = some r := H; have A36 := Aside0.mk A360; clear A360; replace H := zIb H; rcases H with ⟨rfl, H⟩ | ⟨rfl, H⟩
          ·have H' := Aside0.mk H; clear H
           try go_wp2
           replace BK203 := Aside0.mk (blk_drew BK203.out); replace BK204 := Aside0.mk (blk_drew BK204.out); replace HB := Aside0.mk (below_drew1 HB.out); have p208 := zQ (0 ≤ (x52_3 : Int)); have q208 := zQ (x52_3 < (l0_2.length : Int)); obtain ⟨ad208, A208_1, c208_1, A208_2, c208_2, e208, hx208_0, hx208_1, hx208_2, hl208_1, hi208_1, hl208_2, hi208_2⟩ := at_T25 HR0_2.out x52_3 p208 q208; have hw208_2 := hx208_2; have hw208_1 := hx208_1; have hw208_0 := hx208_0
           cases e208
           replace hx208_0 := zx HB hx208_0; replace hx208_1 := zx HB hx208_1; replace hx208_2 := zx HB hx208_2; have HR208_1 := Aside0.mk hi208_1; have HC208_1 := Aside0.mk hl208_1; clear hi208_1 hl208_1; have HR208_2 := Aside0.mk hi208_2; have HC208_2 := Aside0.mk hl208_2; clear hi208_2 hl208_2; replace p208 := eq_true p208; replace q208 := eq_true q208; have p209 := zQ (0 ≤ (x52_3 : Int)); have q209 := zQ (x52_3 < (l1_2.length : Int)); obtain ⟨ad209, A209_1, c209_1, A209_2, c209_2, e209, hx209_0, hx209_1, hx209_2, hl209_1, hi209_1, hl209_2, hi209_2⟩ := at_T25 HR1_2.out x52_3 p209 q209; have hw209_2 := hx209_2; have hw209_1 := hx209_1; have hw209_0 := hx209_0
           cases e209
           replace hx209_0 := zx HB hx209_0; replace hx209_1 := zx HB hx209_1; replace hx209_2 := zx HB hx209_2; have HR209_1 := Aside0.mk hi209_1; have HC209_1 := Aside0.mk hl209_1; clear hi209_1 hl209_1; have HR209_2 := Aside0.mk hi209_2; have HC209_2 := Aside0.mk hl209_2; clear hi209_2 hl209_2; replace p209 := eq_true p209; replace q209 := eq_true q209
           refine start_ (n := 12) (S := fun w' => w'.cell? ⟨gb203, 0, none⟩ = some (.string a0_0) ∧ w'.cell? ⟨gb203, 1, none⟩ = some (.slice A0_1 l0_1.length c0_1) ∧ w'.cell? ⟨gb203, 2, none⟩ = some (.slice (some ad208) l0_2.length c0_2) ∧ w'.cell? ⟨gb204, 0, none⟩ = some (.string a1_0) ∧ w'.cell? ⟨gb204, 1, none⟩ = some (.slice A1_1 l1_1.length c1_1) ∧ w'.cell? ⟨gb204, 2, none⟩ = some (.slice (some ad209) l1_2.length c1_2) ∧ w'.cell? (ad208.add ((x52_3).toNat * 3)) = some (.string ((rd_T25 l0_2 x52_3).f0)) ∧ w'.cell? ⟨(ad208.add ((x52_3).toNat * 3)).block, (ad208.add ((x52_3).toNat * 3)).off + 1, none⟩ = some (.slice A208_1 ((rd_T25 l0_2 x52_3).f1).length c208_1) ∧ w'.cell? ⟨(ad208.add ((x52_3).toNat * 3)).block, (ad208.add ((x52_3).toNat * 3)).off + 2, none⟩ = some (.slice A208_2 ((rd_T25 l0_2 x52_3).f2).length c208_2) ∧ w'.cell? (ad209.add ((x52_3).toNat * 3)) = some (.string ((rd_T25 l1_2 x52_3).f0)) ∧ w'.cell? ⟨(ad209.add ((x52_3).toNat * 3)).block, (ad209.add ((x52_3).toNat * 3)).off + 1, none⟩ = some (.slice A209_1 ((rd_T25 l1_2 x52_3).f1).length c209_1) ∧ w'.cell? ⟨(ad209.add ((x52_3).toNat * 3)).block, (ad209.add ((x52_3).toNat * 3)).off + 2, none⟩ = some (.slice A209_2 ((rd_T25 l1_2 x52_3).f2).length c209_2)) (ds := []) #[false, false, false, false, false, false, false, false, false, false, false, false] (by kernel_rfl) rfl rfl ⟨(blk_cell BK203.out 0).trans rfl, (blk_cell BK203.out 1).trans rfl, (blk_cell BK203.out 2).trans rfl, (blk_cell BK204.out 0).trans rfl, (blk_cell BK204.out 1).trans rfl, (blk_cell BK204.out 2).trans rfl, (zx HB hw208_0), (zx HB hw208_1), (zx HB hw208_2), (zx HB hw209_0), (zx HB hw209_1), (zx HB hw209_2)⟩ (fun hHeld => ?_); refine with_tabW trystlaw11_Same.tab12 trystlaw11_Same.bits12 (fun HT_ HW_ => ?_)
           generalize wr.drew = w38 at BK203 BK204 HB HR208_1 HR208_2 HR209_1 HR209_2 hx208_0 hx208_1 hx208_2 hx209_0 hx209_1 hx209_2 hHeld ⊢; refine pure_ (i := 0) (N := some 55) (v := ?_) (a' := ?_) #[true, false, false, false, false, false, false, false, false, false, false, false] rfl rfl (any_of HT_.out (by kernel_rfl)) (fun _ _ _ h => h) (Or.inl ⟨by rfl, ?_⟩) ?_ ?_; rotate_left
           ·intro w'; go_simp; with_reducible rfl
           rotate_left
           ·simp only [Act.put, List.setIfInBounds_toArray, List.set_cons_zero, List.set_cons_succ, i64_w, i32_w]; rfl
           refine pure_ (i := 2) (N := some 57) (v := ?_) (a' := ?_) #[true, false, true, false, false, false, false, false, false, false, false, false] rfl rfl (any_of HT_.out (by kernel_rfl)) (fun _ _ _ h => h) (Or.inl ⟨by rfl, ?_⟩) ?_ ?_; rotate_left
           ·intro w'; go_simp; with_reducible rfl
           rotate_left
           ·simp only [Act.put, List.setIfInBounds_toArray, List.set_cons_zero, List.set_cons_succ, i64_w, i32_w]; rfl
           refine pure_ (i := 5) (N := some 60) (v := ?_) (a' := ?_) #[true, false, true, false, false, true, false, false, false, false, false, false] rfl rfl (any_of HT_.out (by kernel_rfl)) (fun _ _ _ h => h) (Or.inl ⟨by rfl, ?_⟩) ?_ ?_; rotate_left
           ·intro w'; go_simp; with_reducible rfl
           rotate_left
           ·simp only [Act.put, List.setIfInBounds_toArray, List.set_cons_zero, List.set_cons_succ, i64_w, i32_w]; rfl
           refine pure_ (i := 7) (N := some 62) (v := ?_) (a' := ?_) #[true, false, true, false, false, true, false, true, false, false, false, false] rfl rfl (any_of HT_.out (by kernel_rfl)) (fun _ _ _ h => h) (Or.inl ⟨by rfl, ?_⟩) ?_ ?_; rotate_left
           ·intro w'; go_simp; with_reducible rfl
           rotate_left
           ·simp only [Act.put, List.setIfInBounds_toArray, List.set_cons_zero, List.set_cons_succ, i64_w, i32_w]; rfl
           refine take_ (i := 1) (N := some 56) (v := ?_) (a' := ?_) #[true, true, true, false, false, true, false, true, false, false, false, false] rfl rfl (take_ofW HT_.out HW_.out (by kernel_rfl)) (fun _ _ _ h => h) (Or.inl ⟨by rfl, ?_⟩) hHeld ?_ ?_; rotate_left
           ·rintro w' ⟨s0, s1, s2, s3, s4, s5, s6, s7, s8, s9, s10, s11⟩; go_simp; with_reducible rfl
           rotate_left
           ·simp only [Act.put, List.setIfInBounds_toArray, List.set_cons_zero, List.set_cons_succ, i64_w, i32_w]; rfl
           refine pure_ (i := 3) (N := some 58) (v := ?_) (a' := ?_) #[true, true, true, true, false, true, false, true, false, false, false, false] rfl rfl (any_of HT_.out (by kernel_rfl)) (fun _ _ _ h => h) (Or.inl ⟨by rfl, ?_⟩) ?_ ?_; rotate_left
           ·intro w'; go_simp; with_reducible rfl
           rotate_left
           ·simp only [Act.put, List.setIfInBounds_toArray, List.set_cons_zero, List.set_cons_succ, i64_w, i32_w]; rfl
           refine take_ (i := 4) (N := some 59) (v := ?_) (a' := ?_) #[true, true, true, true, true, true, false, true, false, false, false, false] rfl rfl (take_ofW HT_.out HW_.out (by kernel_rfl)) (fun _ _ _ h => h) (Or.inl ⟨by rfl, ?_⟩) hHeld ?_ ?_; rotate_left
           ·rintro w' ⟨s0, s1, s2, s3, s4, s5, s6, s7, s8, s9, s10, s11⟩; go_simp; with_reducible rfl
           rotate_left
           ·simp only [Act.put, List.setIfInBounds_toArray, List.set_cons_zero, List.set_cons_succ, i64_w, i32_w]; rfl
           refine take_ (i := 6) (N := some 61) (v := ?_) (a' := ?_) #[true, true, true, true, true, true, true, true, false, false, false, false] rfl rfl (take_ofW HT_.out HW_.out (by kernel_rfl)) (fun _ _ _ h => h) (Or.inl ⟨by rfl, ?_⟩) hHeld ?_ ?_; rotate_left
           ·rintro w' ⟨s0, s1, s2, s3, s4, s5, s6, s7, s8, s9, s10, s11⟩; go_simp; with_reducible rfl
           rotate_left
           ·simp only [Act.put, List.setIfInBounds_toArray, List.set_cons_zero, List.set_cons_succ, i64_w, i32_w]; rfl
           refine pure_ (i := 8) (N := some 63) (v := ?_) (a' := ?_) #[true, true, true, true, true, true, true, true, true, false, false, false] rfl rfl (any_of HT_.out (by kernel_rfl)) (fun _ _ _ h => h) (Or.inl ⟨by rfl, ?_⟩) ?_ ?_; rotate_left
           ·intro w'; go_simp; with_reducible rfl
           rotate_left
           ·simp only [Act.put, List.setIfInBounds_toArray, List.set_cons_zero, List.set_cons_succ, i64_w, i32_w]; rfl
           refine take_ (i := 9) (N := some 64) (v := ?_) (a' := ?_) #[true, true, true, true, true, true, true, true, true, true, false, false] rfl rfl (take_ofW HT_.out HW_.out (by kernel_rfl)) (fun _ _ _ h => h) (Or.inl ⟨by rfl, ?_⟩) hHeld ?_ ?_; rotate_left
           ·rintro w' ⟨s0, s1, s2, s3, s4, s5, s6, s7, s8, s9, s10, s11⟩; go_simp; with_reducible rfl
           rotate_left
           ·simp only [Act.put, List.setIfInBounds_toArray, List.set_cons_zero, List.set_cons_succ, i64_w, i32_w]; rfl
           refine one_ (i := 10) (N := some 65) #[true, true, true, true, true, true, true, true, true, true, true, false] rfl rfl (one_of HT_.out (by kernel_rfl)) (by decide) (fun K hK => ?_); refine goes_ Tryd.func8 (by kernel_rfl) rfl #[.agg #[.string ((rd_T25 l0_2 x52_3).f0), .slice A208_1 ((rd_T25 l0_2 x52_3).f1).length c208_1, .slice A208_2 ((rd_T25 l0_2 x52_3).f2).length c208_2], .agg #[.string ((rd_T25 l1_2 x52_3).f0), .slice A209_1 ((rd_T25 l1_2 x52_3).f1).length c209_1, .slice A209_2 ((rd_T25 l1_2 x52_3).f2).length c209_2]] (by rfl) rfl rfl zA ?_
           with_reducible refine (ih k3 (by have := HJ2.out; have := HK2.out; have := HK3.out; omega) ((rd_T25 l0_2 x52_3).f0) _ _ ((rd_T25 l0_2 x52_3).f1) _ _ ((rd_T25 l0_2 x52_3).f2) ((rd_T25 l1_2 x52_3).f0) _ _ ((rd_T25 l1_2 x52_3).f1) _ _ ((rd_T25 l1_2 x52_3).f2) true _ zG ?side1 ?side2 ?side3 ?side4 ?side5 ?side6 ?side7 ?side8 A36.out).mono ?_
           (case side1 => exact Kd.C_below (Kd.C_below HR208_1.out HB.out) zX)
           (case side2 => exact HC208_1.out)
           (case side3 => exact Kd.C_below (Kd.C_below HR208_2.out HB.out) zX)
           (case side4 => exact HC208_2.out)
           (case side5 => exact Kd.C_below (Kd.C_below HR209_1.out HB.out) zX)
           (case side6 => exact HC209_1.out)
           (case side7 => exact Kd.C_below (Kd.C_below HR209_2.out HB.out) zX)
           (case side8 => exact HC209_2.out)
           rintro e w39 ⟨rfl, hb⟩; refine ⟨_, rfl, ?_⟩; replace BK203 := zb BK203 hb; replace BK204 := zb BK204 hb; replace HB := zw hb; (try clear hb); (try clear hb2); (try clear hk); (try clear hi)
           refine hK.out _ _ ⟨(blk_cell BK203.out 0).trans rfl, (blk_cell BK203.out 1).trans rfl, (blk_cell BK203.out 2).trans rfl, (blk_cell BK204.out 0).trans rfl, (blk_cell BK204.out 1).trans rfl, (blk_cell BK204.out 2).trans rfl, (zx HB hw208_0), (zx HB hw208_1), (zx HB hw208_2), (zx HB hw209_0), (zx HB hw209_1), (zx HB hw209_2)⟩ (fun hHeld => ?_); clear hK K; refine norm_ (a' := ?_) ?_ ?_; rotate_left
           ·show Act.put _ (some 65) _ = _
            simp only [Act.put, List.setIfInBounds_toArray, List.set_cons_zero, List.set_cons_succ, i64_w, i32_w]; rfl
           refine pure_ (i := 11) (N := some 66) (v := ?_) (a' := ?_) #[true, true, true, true, true, true, true, true, true, true, true, true] rfl rfl (any_of HT_.out (by kernel_rfl)) (fun _ _ _ h => h) (Or.inl ⟨by rfl, ?_⟩) ?_ ?_; rotate_left
           ·intro w'; go_simp; with_reducible rfl
           rotate_left
           ·simp only [Act.put, List.setIfInBounds_toArray, List.set_cons_zero, List.set_cons_succ, i64_w, i32_w]; rfl
           refine done_ (done_of HT_.out (by kernel_rfl)) ?_
           try go_wp2
           go_roundg k3
           case measure => have := HJ2.out; have := HK2.out; have := HK3.out; omega
           case rel => exact ⟨(wrap64 (x52_3 + 1)), zS, H', ⟨by have := HJ2.out; have := HK2.out; have := HK3.out; omega⟩, ⟨blk_below BK203.out zX⟩, ⟨blk_below BK204.out zX⟩, ⟨zB⟩⟩
          ·obtain rfl := Option.some.inj H
           try go_wp2
           replace BK203 := Aside0.mk (blk_drew BK203.out); replace BK204 := Aside0.mk (blk_drew BK204.out); replace HB := Aside0.mk (below_drew1 HB.out); have p208 := zQ (0 ≤ (x52_3 : Int)); have q208 := zQ (x52_3 < (l0_2.length : Int)); obtain ⟨ad208, A208_1, c208_1, A208_2, c208_2, e208, hx208_0, hx208_1, hx208_2, hl208_1, hi208_1, hl208_2, hi208_2⟩ := at_T25 HR0_2.out x52_3 p208 q208; have hw208_2 := hx208_2; have hw208_1 := hx208_1; have hw208_0 := hx208_0
           cases e208
           replace hx208_0 := zx HB hx208_0; replace hx208_1 := zx HB hx208_1; replace hx208_2 := zx HB hx208_2; have HR208_1 := Aside0.mk hi208_1; have HC208_1 := Aside0.mk hl208_1; clear hi208_1 hl208_1; have HR208_2 := Aside0.mk hi208_2; have HC208_2 := Aside0.mk hl208_2; clear hi208_2 hl208_2; replace p208 := eq_true p208; replace q208 := eq_true q208; have p209 := zQ (0 ≤ (x52_3 : Int)); have q209 := zQ (x52_3 < (l1_2.length : Int)); obtain ⟨ad209, A209_1, c209_1, A209_2, c209_2, e209, hx209_0, hx209_1, hx209_2, hl209_1, hi209_1, hl209_2, hi209_2⟩ := at_T25 HR1_2.out x52_3 p209 q209; have hw209_2 := hx209_2; have hw209_1 := hx209_1; have hw209_0 := hx209_0
           cases e209
           replace hx209_0 := zx HB hx209_0; replace hx209_1 := zx HB hx209_1; replace hx209_2 := zx HB hx209_2; have HR209_1 := Aside0.mk hi209_1; have HC209_1 := Aside0.mk hl209_1; clear hi209_1 hl209_1; have HR209_2 := Aside0.mk hi209_2; have HC209_2 := Aside0.mk hl209_2; clear hi209_2 hl209_2; replace p209 := eq_true p209; replace q209 := eq_true q209
           refine start_ (n := 12) (S := fun w' => w'.cell? ⟨gb203, 0, none⟩ = some (.string a0_0) ∧ w'.cell? ⟨gb203, 1, none⟩ = some (.slice A0_1 l0_1.length c0_1) ∧ w'.cell? ⟨gb203, 2, none⟩ = some (.slice (some ad208) l0_2.length c0_2) ∧ w'.cell? ⟨gb204, 0, none⟩ = some (.string a1_0) ∧ w'.cell? ⟨gb204, 1, none⟩ = some (.slice A1_1 l1_1.length c1_1) ∧ w'.cell? ⟨gb204, 2, none⟩ = some (.slice (some ad209) l1_2.length c1_2) ∧ w'.cell? (ad208.add ((x52_3).toNat * 3)) = some (.string ((rd_T25 l0_2 x52_3).f0)) ∧ w'.cell? ⟨(ad208.add ((x52_3).toNat * 3)).block, (ad208.add ((x52_3).toNat * 3)).off + 1, none⟩ = some (.slice A208_1 ((rd_T25 l0_2 x52_3).f1).length c208_1) ∧ w'.cell? ⟨(ad208.add ((x52_3).toNat * 3)).block, (ad208.add ((x52_3).toNat * 3)).off + 2, none⟩ = some (.slice A208_2 ((rd_T25 l0_2 x52_3).f2).length c208_2) ∧ w'.cell? (ad209.add ((x52_3).toNat * 3)) = some (.string ((rd_T25 l1_2 x52_3).f0)) ∧ w'.cell? ⟨(ad209.add ((x52_3).toNat * 3)).block, (ad209.add ((x52_3).toNat * 3)).off + 1, none⟩ = some (.slice A209_1 ((rd_T25 l1_2 x52_3).f1).length c209_1) ∧ w'.cell? ⟨(ad209.add ((x52_3).toNat * 3)).block, (ad209.add ((x52_3).toNat * 3)).off + 2, none⟩ = some (.slice A209_2 ((rd_T25 l1_2 x52_3).f2).length c209_2)) (ds := []) #[false, false, false, false, false, false, false, false, false, false, false, false] (by kernel_rfl) rfl rfl ⟨(blk_cell BK203.out 0).trans rfl, (blk_cell BK203.out 1).trans rfl, (blk_cell BK203.out 2).trans rfl, (blk_cell BK204.out 0).trans rfl, (blk_cell BK204.out 1).trans rfl, (blk_cell BK204.out 2).trans rfl, (zx HB hw208_0), (zx HB hw208_1), (zx HB hw208_2), (zx HB hw209_0), (zx HB hw209_1), (zx HB hw209_2)⟩ (fun hHeld => ?_); refine with_tabW trystlaw11_Same.tab12 trystlaw11_Same.bits12 (fun HT_ HW_ => ?_)
           generalize wr.drew = w40 at BK203 BK204 HB HR208_1 HR208_2 HR209_1 HR209_2 hx208_0 hx208_1 hx208_2 hx209_0 hx209_1 hx209_2 hHeld ⊢; refine pure_ (i := 0) (N := some 55) (v := ?_) (a' := ?_) #[true, false, false, false, false, false, false, false, false, false, false, false] rfl rfl (any_of HT_.out (by kernel_rfl)) (fun _ _ _ h => h) (Or.inl ⟨by rfl, ?_⟩) ?_ ?_; rotate_left
           ·intro w'; go_simp; with_reducible rfl
           rotate_left
           ·simp only [Act.put, List.setIfInBounds_toArray, List.set_cons_zero, List.set_cons_succ, i64_w, i32_w]; rfl
           refine pure_ (i := 2) (N := some 57) (v := ?_) (a' := ?_) #[true, false, true, false, false, false, false, false, false, false, false, false] rfl rfl (any_of HT_.out (by kernel_rfl)) (fun _ _ _ h => h) (Or.inl ⟨by rfl, ?_⟩) ?_ ?_; rotate_left
           ·intro w'; go_simp; with_reducible rfl
           rotate_left
           ·simp only [Act.put, List.setIfInBounds_toArray, List.set_cons_zero, List.set_cons_succ, i64_w, i32_w]; rfl
           refine pure_ (i := 5) (N := some 60) (v := ?_) (a' := ?_) #[true, false, true, false, false, true, false, false, false, false, false, false] rfl rfl (any_of HT_.out (by kernel_rfl)) (fun _ _ _ h => h) (Or.inl ⟨by rfl, ?_⟩) ?_ ?_; rotate_left
           ·intro w'; go_simp; with_reducible rfl
           rotate_left
           ·simp only [Act.put, List.setIfInBounds_toArray, List.set_cons_zero, List.set_cons_succ, i64_w, i32_w]; rfl
           refine pure_ (i := 7) (N := some 62) (v := ?_) (a' := ?_) #[true, false, true, false, false, true, false, true, false, false, false, false] rfl rfl (any_of HT_.out (by kernel_rfl)) (fun _ _ _ h => h) (Or.inl ⟨by rfl, ?_⟩) ?_ ?_; rotate_left
           ·intro w'; go_simp; with_reducible rfl
           rotate_left
           ·simp only [Act.put, List.setIfInBounds_toArray, List.set_cons_zero, List.set_cons_succ, i64_w, i32_w]; rfl
           refine take_ (i := 1) (N := some 56) (v := ?_) (a' := ?_) #[true, true, true, false, false, true, false, true, false, false, false, false] rfl rfl (take_ofW HT_.out HW_.out (by kernel_rfl)) (fun _ _ _ h => h) (Or.inl ⟨by rfl, ?_⟩) hHeld ?_ ?_; rotate_left
           ·rintro w' ⟨s0, s1, s2, s3, s4, s5, s6, s7, s8, s9, s10, s11⟩; go_simp; with_reducible rfl
           rotate_left
           ·simp only [Act.put, List.setIfInBounds_toArray, List.set_cons_zero, List.set_cons_succ, i64_w, i32_w]; rfl
           refine pure_ (i := 3) (N := some 58) (v := ?_) (a' := ?_) #[true, true, true, true, false, true, false, true, false, false, false, false] rfl rfl (any_of HT_.out (by kernel_rfl)) (fun _ _ _ h => h) (Or.inl ⟨by rfl, ?_⟩) ?_ ?_; rotate_left
           ·intro w'; go_simp; with_reducible rfl
           rotate_left
           ·simp only [Act.put, List.setIfInBounds_toArray, List.set_cons_zero, List.set_cons_succ, i64_w, i32_w]; rfl
           refine take_ (i := 4) (N := some 59) (v := ?_) (a' := ?_) #[true, true, true, true, true, true, false, true, false, false, false, false] rfl rfl (take_ofW HT_.out HW_.out (by kernel_rfl)) (fun _ _ _ h => h) (Or.inl ⟨by rfl, ?_⟩) hHeld ?_ ?_; rotate_left
           ·rintro w' ⟨s0, s1, s2, s3, s4, s5, s6, s7, s8, s9, s10, s11⟩; go_simp; with_reducible rfl
           rotate_left
           ·simp only [Act.put, List.setIfInBounds_toArray, List.set_cons_zero, List.set_cons_succ, i64_w, i32_w]; rfl
           refine take_ (i := 6) (N := some 61) (v := ?_) (a' := ?_) #[true, true, true, true, true, true, true, true, false, false, false, false] rfl rfl (take_ofW HT_.out HW_.out (by kernel_rfl)) (fun _ _ _ h => h) (Or.inl ⟨by rfl, ?_⟩) hHeld ?_ ?_; rotate_left
           ·rintro w' ⟨s0, s1, s2, s3, s4, s5, s6, s7, s8, s9, s10, s11⟩; go_simp; with_reducible rfl
           rotate_left
           ·simp only [Act.put, List.setIfInBounds_toArray, List.set_cons_zero, List.set_cons_succ, i64_w, i32_w]; rfl
           refine pure_ (i := 8) (N := some 63) (v := ?_) (a' := ?_) #[true, true, true, true, true, true, true, true, true, false, false, false] rfl rfl (any_of HT_.out (by kernel_rfl)) (fun _ _ _ h => h) (Or.inl ⟨by rfl, ?_⟩) ?_ ?_; rotate_left
           ·intro w'; go_simp; with_reducible rfl
           rotate_left
           ·simp only [Act.put, List.setIfInBounds_toArray, List.set_cons_zero, List.set_cons_succ, i64_w, i32_w]; rfl
           refine take_ (i := 9) (N := some 64) (v := ?_) (a' := ?_) #[true, true, true, true, true, true, true, true, true, true, false, false] rfl rfl (take_ofW HT_.out HW_.out (by kernel_rfl)) (fun _ _ _ h => h) (Or.inl ⟨by rfl, ?_⟩) hHeld ?_ ?_; rotate_left
           ·rintro w' ⟨s0, s1, s2, s3, s4, s5, s6, s7, s8, s9, s10, s11⟩; go_simp; with_reducible rfl
           rotate_left
           ·simp only [Act.put, List.setIfInBounds_toArray, List.set_cons_zero, List.set_cons_succ, i64_w, i32_w]; rfl
           refine one_ (i := 10) (N := some 65) #[true, true, true, true, true, true, true, true, true, true, true, false] rfl rfl (one_of HT_.out (by kernel_rfl)) (by decide) (fun K hK => ?_); refine goes_ Tryd.func8 (by kernel_rfl) rfl #[.agg #[.string ((rd_T25 l0_2 x52_3).f0), .slice A208_1 ((rd_T25 l0_2 x52_3).f1).length c208_1, .slice A208_2 ((rd_T25 l0_2 x52_3).f2).length c208_2], .agg #[.string ((rd_T25 l1_2 x52_3).f0), .slice A209_1 ((rd_T25 l1_2 x52_3).f1).length c209_1, .slice A209_2 ((rd_T25 l1_2 x52_3).f2).length c209_2]] (by rfl) rfl rfl zA ?_
           with_reducible refine (ih k3 (by have := HJ2.out; have := HK2.out; have := HK3.out; omega) ((rd_T25 l0_2 x52_3).f0) _ _ ((rd_T25 l0_2 x52_3).f1) _ _ ((rd_T25 l0_2 x52_3).f2) ((rd_T25 l1_2 x52_3).f0) _ _ ((rd_T25 l1_2 x52_3).f1) _ _ ((rd_T25 l1_2 x52_3).f2) false _ zG ?side1 ?side2 ?side3 ?side4 ?side5 ?side6 ?side7 ?side8 A36.out).mono ?_
           (case side1 => exact Kd.C_below (Kd.C_below HR208_1.out HB.out) zX)
           (case side2 => exact HC208_1.out)
           (case side3 => exact Kd.C_below (Kd.C_below HR208_2.out HB.out) zX)
           (case side4 => exact HC208_2.out)
           (case side5 => exact Kd.C_below (Kd.C_below HR209_1.out HB.out) zX)
           (case side6 => exact HC209_1.out)
           (case side7 => exact Kd.C_below (Kd.C_below HR209_2.out HB.out) zX)
           (case side8 => exact HC209_2.out)
           rintro e w41 ⟨rfl, hb⟩; refine ⟨_, rfl, ?_⟩; replace BK203 := zb BK203 hb; replace BK204 := zb BK204 hb; replace HB := zw hb; (try clear hb); (try clear hb2); (try clear hk); (try clear hi)
           refine hK.out _ _ ⟨(blk_cell BK203.out 0).trans rfl, (blk_cell BK203.out 1).trans rfl, (blk_cell BK203.out 2).trans rfl, (blk_cell BK204.out 0).trans rfl, (blk_cell BK204.out 1).trans rfl, (blk_cell BK204.out 2).trans rfl, (zx HB hw208_0), (zx HB hw208_1), (zx HB hw208_2), (zx HB hw209_0), (zx HB hw209_1), (zx HB hw209_2)⟩ (fun hHeld => ?_); clear hK K; refine norm_ (a' := ?_) ?_ ?_; rotate_left
           ·show Act.put _ (some 65) _ = _
            simp only [Act.put, List.setIfInBounds_toArray, List.set_cons_zero, List.set_cons_succ, i64_w, i32_w]; rfl
           refine pure_ (i := 11) (N := some 66) (v := ?_) (a' := ?_) #[true, true, true, true, true, true, true, true, true, true, true, true] rfl rfl (any_of HT_.out (by kernel_rfl)) (fun _ _ _ h => h) (Or.inl ⟨by rfl, ?_⟩) ?_ ?_; rotate_left
           ·intro w'; go_simp; with_reducible rfl
           rotate_left
           ·simp only [Act.put, List.setIfInBounds_toArray, List.set_cons_zero, List.set_cons_succ, i64_w, i32_w]; rfl
           refine done_ (done_of HT_.out (by kernel_rfl)) ?_
           try go_wp2
           go_ret; exact ⟨zE, zB⟩
         ·obtain rfl := Option.some.inj H; go_wp2; go_ret; exact ⟨zE, zB⟩
end Go.Proofs.YtdojmdbaiddkgaaDoor.Print
end
section
namespace Go.Proofs.YtdojmdbaiddkgaaDoor.Print
open Go.RowKit Go.Proofs.YtdojmdbaiddkgaaDoorW.PrintWords Go.Proofs.YtdojmdbaiddkgaaDoorW.PrintLast Go.Proofs.YtdojmdbaiddkgaaDoorW.PrintMore
set_option linter.unusedVariables false
set_option linter.unusedSimpArgs false
def trystlaw11_Few.f (k : Nat) (a0_0 : ByteArray) (l0_1 : List (S42)) (l0_2 : List (S25)) : Option (Bool) := (trystlaw11_size.f k a0_0 l0_1 l0_2 0).bind fun t156 => (some (decide (t156 ≤ 50000)))
set_option maxHeartbeats 8000000 in
set_option maxRecDepth 100000 in
theorem trystlaw11_Few.calls (k : Nat) (a0_0 : ByteArray) (A0_1 : Option Addr) (c0_1 : Nat) (l0_1 : List (S42)) (A0_2 : Option Addr) (c0_2 : Nat) (l0_2 : List (S25)) (r : Bool) (w : World) (hG : GG w) (hr0_1 : Kd.C k42 w A0_1 l0_1.length l0_1) (hc0_1 : l0_1.length ≤ c0_1) (hr0_2 : Kd.C k25 w A0_2 l0_2.length l0_2) (hc0_2 : l0_2.length ≤ c0_2) (h : trystlaw11_Few.f k a0_0 l0_1 l0_2 = some r) :
  Calls Tryd.prog 5 #[.agg #[.string a0_0, .slice A0_1 l0_1.length c0_1, .slice A0_2 l0_2.length c0_2]] w fun e w' => e = .returned (.bool r) ∧ Below w.heap.size w w' := by
 have hu25 := Tryd.underlying25; have HR0_1 := Aside0.mk hr0_1; have HC0_1 := Aside0.mk hc0_1; clear hr0_1 hc0_1; have HR0_2 := Aside0.mk hr0_2; have HC0_2 := Aside0.mk hc0_2; clear hr0_2 hc0_2; have HB := Aside0.mk (Below.refl w.heap.size w); have H : ((trystlaw11_size.f k a0_0 l0_1 l0_2 0).bind fun t156 => (some (decide (t156 ≤ 50000)))) = some r := h; clear h; replace H := Option.bind_eq_some_iff.mp H; obtain ⟨t156, A20, H⟩ := H; replace H : (some (decide (t156 ≤ 50000))) = some r := H; have A2 := Aside0.mk A20; clear A20; obtain rfl := Option.some.inj H
 go_enter Tryd.func5, Tryd.ntmps5
 go_wp2_with (first | ((with_reducible refine gate_dst (N := 1) rfl ?_); refine zbox (N := 1) #[.string a0_0, .slice A0_1 l0_1.length c0_1, .slice A0_2 l0_2.length c0_2] 25 (fun gb155 hg w3 hbox hb => ?_); have n0_ := zw hb; have n1_ := Aside0.mk hbox; have n2_ := zg w hg; have n3_ := zg w hg; clear HB; have HB := n0_; have BK155 := n1_; have GW155 := n2_; have GE155 := n3_; clear n0_ n1_ n2_ n3_; clear hb hbox hg; have hcz4_0 := zc0 BK155; have hcz4_1 := zc1 BK155; have hcz4_2 := zc2 BK155; have hfz4_0 := zf BK155 0; have hfz4_1 := zf BK155 1; have hfz4_2 := zf BK155 2) | ((with_reducible refine gate_callee (f := 15) rfl ?_); refine goesL_ (some 4) rfl rfl Tryd.func15 (by kernel_rfl) rfl #[.agg #[.string a0_0, .slice A0_1 l0_1.length c0_1, .slice A0_2 l0_2.length c0_2], .int .i64 0] rfl zA ?_; (with_reducible refine (trystlaw11_size.calls k a0_0 _ _ l0_1 _ _ l0_2 0 t156 _ zG ?side1 ?side2 ?side3 ?side4 A2.out).mono ?_); (case side1 => exact Kd.C_below (Kd.C_below HR0_1.out HB.out) zX); (case side2 => exact HC0_1.out); (case side3 => exact Kd.C_below (Kd.C_below HR0_2.out HB.out) zX); (case side4 => exact HC0_2.out); rintro e w5 ⟨rfl, hb⟩; refine ⟨_, rfl, ?_⟩; replace BK155 := zb BK155 hb; replace HB := zw hb; (try clear hb)))
 go_ret; exact ⟨zE, zB⟩
end Go.Proofs.YtdojmdbaiddkgaaDoor.Print
end
section
set_option linter.unusedVariables false
set_option linter.unusedSimpArgs false
set_option linter.unusedSectionVars false
namespace Go.Proofs.YtdojmdbaiddkgaaDoor.Pure
open Go.RowKit Go.Proofs.YtdojmdbaiddkgaaDoor.Print Go.Proofs.YtdojmdbaiddkgaaDoorW.PrintWords Go.Proofs.YtdojmdbaiddkgaaDoorW.PrintLast Go.Proofs.YtdojmdbaiddkgaaDoorW.PrintMore
abbrev RL := S42
abbrev PL := S37
abbrev RT := S25
abbrev PT := S32
def toL (x : RL) : PL := ⟨x.f0, x.f1.map toP, x.f2⟩
mutual
def toT : RT → PT
  | ⟨n, l, k⟩ => ⟨n, l.map toL, toTs k⟩
def toTs : List RT → List PT
  | [] => []
  | t :: r => toT t :: toTs r
end
theorem toTs_map : ∀ l : List RT, toTs l = l.map toT
  | [] => by simp [toTs]
  | t :: r => by simp only [toTs, List.map_cons]; rw [toTs_map r]
theorem toT_f (t : RT) : toT t = ⟨t.f0, t.f1.map toL, t.f2.map toT⟩ := by
  obtain ⟨n, l, k⟩ := t
  simp only [toT]; rw [toTs_map]
/-- A line's lists are of a size that any memory bears. -/
def LB (x : RL) : Prop := x.f1.length < 3518437208883 ∧ ∀ p ∈ x.f1, p.f1.length < 8796093022208
mutual
def TB : RT → Prop
  | ⟨n, l, k⟩ => (l.length < 2513169434916 ∧ ∀ x ∈ l, LB x) ∧ k.length < 2199023255552 ∧ TBs k
def TBs : List RT → Prop
  | [] => True
  | t :: r => TB t ∧ TBs r
end
theorem TBs_all : ∀ l : List RT, TBs l → ∀ t ∈ l, TB t
  | [], _, t, ht => by simp at ht
  | x :: r, h, t, ht => by
    simp only [TBs] at h
    rcases List.mem_cons.1 ht with rfl | ht
    · exact h.1
    · exact TBs_all r h.2 t ht
theorem TB_of {t : RT} (h : TB t) : (t.f1.length < 2513169434916 ∧ ∀ x ∈ t.f1, LB x) ∧ t.f2.length < 2199023255552 ∧ ∀ x ∈ t.f2, TB x := by
  obtain ⟨n, l, k⟩ := t
  simp only [TB] at h
  exact ⟨h.1, h.2.1, TBs_all k h.2.2⟩
theorem rdRL (l : List RL) (i : Nat) (h : i < l.length) : rd_T42 l (i : Int) = l[i] := by
  unfold rd_T42
  rw [Int.toNat_natCast, List.getD_eq_getElem?_getD, List.getElem?_eq_getElem h]; rfl
theorem rdRT (l : List RT) (i : Nat) (h : i < l.length) : rd_T25 l (i : Int) = l[i] := by
  unfold rd_T25
  rw [Int.toNat_natCast, List.getD_eq_getElem?_getD, List.getElem?_eq_getElem h]; rfl
theorem kid_lt {t : RT} {x : RT} (h : x ∈ t.f2) : SizeOf.sizeOf x < SizeOf.sizeOf t := by
  obtain ⟨n, l, k⟩ := t
  have h : x ∈ k := h
  have h1 := List.sizeOf_lt_of_mem h
  simp
  omega
theorem theirs_l1 (nm : ByteArray) (l : List RL) (ks : List RT) (ls : List PL) (hk : ks.length < 2199023255552) (ih : ∀ t ∈ ks, Ev (fun k => trystlaw11_Theirs.f k t.f0 t.f1 t.f2) (t.f0, t.f1.map toL, t.f2.map toT)) :
    ∀ (d i : Nat) (acc : List PT), i + d = ks.length → acc.length = i → Ev (fun k => trystlaw11_Theirs.l1 k (ks.length : Int) (i : Int) nm l ks nm ls acc) (nm, ls, acc ++ (ks.drop i).map toT) := by
  intro d
  induction d with
  | zero =>
    intro i acc hi ha
    rw [List.drop_eq_nil_of_le (by omega), List.map_nil, List.append_nil]
    exact Ev.step (f := fun _ => some (nm, ls, acc)) (fun k => by simp only [trystlaw11_Theirs.l1]; rw [if_neg (by omega)]) (Ev.now _)
  | succ d ihd =>
    intro i acc hi ha
    have hil : i < ks.length := by omega
    have h1 := ihd (i + 1) (acc ++ [toT ks[i]]) (by omega) (by simp [ha])
    rw [List.drop_eq_getElem_cons hil, List.map_cons, List.append_cons]
    refine Ev.step (f := fun k => (trystlaw11_Theirs.f k ks[i].f0 ks[i].f1 ks[i].f2).bind fun bt => trystlaw11_Theirs.l1 k (ks.length : Int) ((i + 1 : Nat) : Int) nm l ks nm ls (acc ++ [(⟨bt.1, bt.2.1, bt.2.2⟩ : PT)])) (fun k => ?_) (Ev.bind (ih _ (List.getElem_mem hil)) (by
      show Ev (fun k => trystlaw11_Theirs.l1 k (ks.length : Int) ((i + 1 : Nat) : Int) nm l ks nm ls (acc ++ [(⟨ks[i].f0, ks[i].f1.map toL, ks[i].f2.map toT⟩ : PT)])) _
      rw [← toT_f]; exact h1))
    have hb : acc.length < 2199023255552 := by omega
    simp only [trystlaw11_Theirs.l1, if_pos hb]
    rw [if_pos (by omega), if_pos (by omega), if_pos (by omega), rdRT ks i hil, wrapS i _ hil (by omega)]
theorem theirs_l0 (nm : ByteArray) (l : List RL) (ks : List RT) (hl : l.length < 2513169434916) (hlb : ∀ x ∈ l, LB x) (r : ByteArray × List PL × List PT) (next : Ev (fun k => trystlaw11_Theirs.l1 k (ks.length : Int) ((0 : Nat) : Int) nm l ks nm (l.map toL) ([] : List PT)) r) :
    ∀ (d i : Nat) (acc : List PL), i + d = l.length → acc.length = i → acc ++ (l.drop i).map toL = l.map toL → Ev (fun k => trystlaw11_Theirs.l0 k (l.length : Int) (i : Int) nm l ks nm acc) r := by
  intro d
  induction d with
  | zero =>
    intro i acc hi ha he
    rw [List.drop_eq_nil_of_le (by omega), List.map_nil, List.append_nil] at he
    subst he
    exact Ev.step (fun k => by simp only [trystlaw11_Theirs.l0]; rw [if_neg (by omega)]; rfl) next
  | succ d ihd =>
    intro i acc hi ha he
    have hil : i < l.length := by omega
    rw [List.drop_eq_getElem_cons hil, List.map_cons, List.append_cons] at he
    have h1 := ihd (i + 1) (acc ++ [toL l[i]]) (by omega) (by simp [ha]) he
    have hb := hlb _ (List.getElem_mem hil)
    refine Ev.step (f := fun k => (trystlaw10_Theirs.f k l[i].f0 l[i].f1 l[i].f2).bind fun bt => trystlaw11_Theirs.l0 k (l.length : Int) ((i + 1 : Nat) : Int) nm l ks nm (acc ++ [(⟨bt.1, bt.2.1, bt.2.2⟩ : PL)])) (fun k => ?_) (Ev.bind (theirs _ _ _ hb.1 hb.2) h1)
    have hb : acc.length < 2513169434916 := by omega
    simp only [trystlaw11_Theirs.l0, if_pos hb]
    rw [if_pos (by omega), if_pos (by omega), if_pos (by omega), rdRL l i hil, wrapS i _ hil (by omega)]
theorem theirsT : ∀ (N : Nat) (t : RT), SizeOf.sizeOf t < N → TB t → Ev (fun k => trystlaw11_Theirs.f k t.f0 t.f1 t.f2) (t.f0, t.f1.map toL, t.f2.map toT)
  | 0, t, h, _ => by omega
  | N + 1, t, h, hb => by
    obtain ⟨⟨h1, h2⟩, h3, h4⟩ := TB_of hb
    have ih : ∀ x ∈ t.f2, Ev (fun k => trystlaw11_Theirs.f k x.f0 x.f1 x.f2) (x.f0, x.f1.map toL, x.f2.map toT) := fun x hx => theirsT N x (by have := kid_lt hx; omega) (h4 x hx)
    have n1 := theirs_l1 t.f0 t.f1 t.f2 (t.f1.map toL) h3 ih t.f2.length 0 [] (by omega) rfl
    rw [List.nil_append, List.drop_zero] at n1
    have n0 := theirs_l0 t.f0 t.f1 t.f2 h1 h2 _ n1 t.f1.length 0 [] (by omega) rfl (by rw [List.nil_append, List.drop_zero])
    exact Ev.step (fun k => by simp only [trystlaw11_Theirs.f]; rfl) n0
theorem eqLns_drop (x y : List RL) (i : Nat) (hx : i < x.length) (hy : i < y.length) : eqLns ((x.drop i).map toL) ((y.drop i).map toL) = (eqL x[i].f0 (x[i].f1.map toP) x[i].f2 y[i].f0 (y[i].f1.map toP) y[i].f2 && eqLns ((x.drop (i + 1)).map toL) ((y.drop (i + 1)).map toL)) := by
  rw [List.drop_eq_getElem_cons hx, List.drop_eq_getElem_cons hy, List.map_cons, List.map_cons]
  rfl
theorem eqTs_drop (x y : List RT) (i : Nat) (hx : i < x.length) (hy : i < y.length) : eqTs ((x.drop i).map toT) ((y.drop i).map toT) = (eqT (toT x[i]) (toT y[i]) && eqTs ((x.drop (i + 1)).map toT) ((y.drop (i + 1)).map toT)) := by
  rw [List.drop_eq_getElem_cons hx, List.drop_eq_getElem_cons hy, List.map_cons, List.map_cons]
  simp only [eqTs]
theorem eqT_f (a b : PT) : eqT a b = (decide (a.f0 = b.f0) && (eqLns a.f1 b.f1 && eqTs a.f2 b.f2)) := by
  obtain ⟨n, l, k⟩ := a
  obtain ⟨m, o, j⟩ := b
  simp only [eqT]
theorem same_l1 (a : ByteArray) (la : List RL) (ka : List RT) (b : ByteArray) (lb : List RL) (kb : List RT) (hk : ka.length = kb.length) (hl : ka.length ≤ 9000000000000000000) (ih : ∀ x ∈ ka, ∀ y ∈ kb, Ev (fun k => trystlaw11_Same.f k x.f0 x.f1 x.f2 y.f0 y.f1 y.f2) (eqT (toT x) (toT y))) :
    ∀ (d i : Nat), i + d = ka.length → Ev (fun k => trystlaw11_Same.l1 k (ka.length : Int) (i : Int) a la ka b lb kb) (eqTs ((ka.drop i).map toT) ((kb.drop i).map toT)) := by
  intro d
  induction d with
  | zero =>
    intro i hi
    rw [List.drop_eq_nil_of_le (by omega), List.drop_eq_nil_of_le (by omega), List.map_nil, show eqTs [] [] = true by simp [eqTs]]
    exact Ev.step (f := fun _ => some true) (fun k => by simp only [trystlaw11_Same.l1]; rw [if_neg (by omega)]) (Ev.now _)
  | succ d ihd =>
    intro i hi
    have hx : i < ka.length := by omega
    have hy : i < kb.length := by omega
    rw [eqTs_drop ka kb i hx hy]
    refine Ev.step (f := fun k => (trystlaw11_Same.f k ka[i].f0 ka[i].f1 ka[i].f2 kb[i].f0 kb[i].f1 kb[i].f2).bind fun t => if t = true then trystlaw11_Same.l1 k (ka.length : Int) ((i + 1 : Nat) : Int) a la ka b lb kb else some false) (fun k => by simp only [trystlaw11_Same.l1]; rw [if_pos (by omega), if_pos (by omega), if_pos (by omega), if_pos (by omega), rdRT ka i hx, rdRT kb i hy, wrapS i _ hx hl]) ?_
    refine Ev.bind (ih _ (List.getElem_mem hx) _ (List.getElem_mem hy)) ?_
    cases eqT (toT ka[i]) (toT kb[i]) with
    | false => exact Ev.congr (f := fun _ => some false) (fun k => by rw [if_neg (by simp)]) (Ev.now _)
    | true => exact Ev.congr (fun k => by rw [if_pos rfl]) (by rw [Bool.true_and]; exact ihd (i + 1) (by omega))
theorem same_l0 (a : ByteArray) (la : List RL) (ka : List RT) (b : ByteArray) (lb : List RL) (kb : List RT) (hk : la.length = lb.length) (hl : la.length ≤ 9000000000000000000) (hb : ∀ x ∈ la, LB x) {r : Bool} (next : Ev (fun k => trystlaw11_Same.l1 k (ka.length : Int) ((0 : Nat) : Int) a la ka b lb kb) r) :
    ∀ (d i : Nat), i + d = la.length → Ev (fun k => trystlaw11_Same.l0 k (la.length : Int) (i : Int) a la ka b lb kb) (eqLns ((la.drop i).map toL) ((lb.drop i).map toL) && r) := by
  intro d
  induction d with
  | zero =>
    intro i hi
    rw [List.drop_eq_nil_of_le (by omega), List.drop_eq_nil_of_le (by omega)]
    exact Ev.step (fun k => by simp only [trystlaw11_Same.l0]; rw [if_neg (by omega)]; rfl) next
  | succ d ihd =>
    intro i hi
    have hx : i < la.length := by omega
    have hy : i < lb.length := by omega
    have hbx := hb _ (List.getElem_mem hx)
    rw [eqLns_drop la lb i hx hy, Bool.and_assoc]
    refine Ev.step (f := fun k => (trystlaw10_Same.f k la[i].f0 la[i].f1 la[i].f2 lb[i].f0 lb[i].f1 lb[i].f2).bind fun t => if t = true then trystlaw11_Same.l0 k (la.length : Int) ((i + 1 : Nat) : Int) a la ka b lb kb else some false) (fun k => by simp only [trystlaw11_Same.l0]; rw [if_pos (by omega), if_pos (by omega), if_pos (by omega), if_pos (by omega), rdRL la i hx, rdRL lb i hy, wrapS i _ hx hl]) ?_
    refine Ev.bind (same10 _ _ _ _ _ _ (by have := hbx.1; omega) (fun p hp => by have := hbx.2 p hp; omega)) ?_
    cases eqL la[i].f0 (la[i].f1.map toP) la[i].f2 lb[i].f0 (lb[i].f1.map toP) lb[i].f2 with
    | false => exact Ev.congr (f := fun _ => some false) (fun k => by rw [if_neg (by simp)]) (Ev.now _)
    | true => exact Ev.congr (fun k => by rw [if_pos rfl]) (by rw [Bool.true_and]; exact ihd (i + 1) (by omega))
theorem sameT : ∀ (N : Nat) (a b : RT), SizeOf.sizeOf a < N → TB a → Ev (fun k => trystlaw11_Same.f k a.f0 a.f1 a.f2 b.f0 b.f1 b.f2) (eqT (toT a) (toT b))
  | 0, a, b, h, _ => by omega
  | N + 1, a, b, h, hb => by
    obtain ⟨⟨h1, h2⟩, h3, h4⟩ := TB_of hb
    have hno : Ev (fun k : Nat => trystlaw11_Same.j0 k true a.f0 a.f1 a.f2 b.f0 b.f1 b.f2) false := Ev.step (f := fun _ => some false) (fun k => by simp only [trystlaw11_Same.j0]; rfl) (Ev.now _)
    rw [eqT_f, toT_f, toT_f]
    show Ev _ (decide (a.f0 = b.f0) && (eqLns (a.f1.map toL) (b.f1.map toL) && eqTs (a.f2.map toT) (b.f2.map toT)))
    by_cases hn : a.f0 = b.f0
    case neg =>
      rw [decide_eq_false hn, Bool.false_and]
      exact Ev.step (fun k => by simp only [trystlaw11_Same.f]; rw [if_neg (fun he => hn (toList_ba.1 he))]) hno
    rw [decide_eq_true hn, Bool.true_and]
    by_cases hl : a.f1.length = b.f1.length
    case neg =>
      rw [eqLns_len _ _ (by rw [List.length_map, List.length_map]; exact hl), Bool.false_and]
      exact Ev.step (fun k => by simp only [trystlaw11_Same.f]; rw [if_pos (by rw [hn]), if_neg (by omega)]) hno
    by_cases hk : a.f2.length = b.f2.length
    case neg =>
      rw [eqTs_len _ _ (by rw [List.length_map, List.length_map]; exact hk), Bool.and_false]
      exact Ev.step (fun k => by simp only [trystlaw11_Same.f]; rw [if_pos (by rw [hn]), if_pos (by omega), show ((a.f2.length : Int) != (b.f2.length : Int)) = true from bne_iff_ne.2 (by omega)]) hno
    have ih : ∀ x ∈ a.f2, ∀ y ∈ b.f2, Ev (fun k => trystlaw11_Same.f k x.f0 x.f1 x.f2 y.f0 y.f1 y.f2) (eqT (toT x) (toT y)) := fun x hx y _ => sameT N x y (by have := kid_lt hx; omega) (h4 x hx)
    have n1 := same_l1 a.f0 a.f1 a.f2 b.f0 b.f1 b.f2 hk (by omega) ih a.f2.length 0 (by omega)
    rw [List.drop_zero, List.drop_zero] at n1
    have n0 := same_l0 a.f0 a.f1 a.f2 b.f0 b.f1 b.f2 hl (by omega) h2 n1 a.f1.length 0 (by omega)
    rw [List.drop_zero, List.drop_zero] at n0
    refine Ev.step (f := fun k => trystlaw11_Same.j0 k false a.f0 a.f1 a.f2 b.f0 b.f1 b.f2) (fun k => by simp only [trystlaw11_Same.f]; rw [if_pos (by rw [hn]), if_pos (by omega), show ((a.f2.length : Int) != (b.f2.length : Int)) = false from bne_eq_false_iff_eq.2 (by omega)]) ?_
    exact Ev.step (fun k => by simp only [trystlaw11_Same.j0]; rfl) n0
theorem eqLns_self : ∀ l : List PL, eqLns l l = true
  | [] => rfl
  | p :: t => by unfold eqLns eqLn eqL; rw [eqPs_self, decide_eq_true rfl, decide_eq_true rfl, eqLns_self t]; rfl
theorem eqT_self : ∀ (N : Nat) (a : PT), SizeOf.sizeOf a < N → eqT a a = true
  | 0, a, h => by omega
  | N + 1, a, h => by
    obtain ⟨n, l, k⟩ := a
    have hk : ∀ m : List PT, (∀ x ∈ m, SizeOf.sizeOf x < N) → eqTs m m = true := by
      intro m
      induction m with
      | nil => intro _; simp [eqTs]
      | cons x t ih => intro hm; simp only [eqTs]; rw [eqT_self N x (hm x (by simp)), ih (fun y hy => hm y (by simp [hy]))]; rfl
    simp only [eqT]
    rw [eqLns_self, hk k (fun x hx => by have h1 := List.sizeOf_lt_of_mem hx; simp at h; omega)]
    simp
theorem size_l1 (nm : ByteArray) (l : List RL) (ks : List RT) (dp : Int) (hl : ks.length ≤ 9000000000000000000) (ih : ∀ t ∈ ks, ∀ dp : Int, ∃ r, Ev (fun k => trystlaw11_size.f k t.f0 t.f1 t.f2 dp) r) :
    ∀ (d i : Nat) (n : Int), i + d = ks.length → ∃ r, Ev (fun k => trystlaw11_size.l1 k dp n (ks.length : Int) (i : Int) nm l ks) r := by
  intro d
  induction d with
  | zero => intro i n hi; exact ⟨n, Ev.step (f := fun _ => some n) (fun k => by simp only [trystlaw11_size.l1]; rw [if_neg (by omega)]) (Ev.now _)⟩
  | succ d ihd =>
    intro i n hi
    have hil : i < ks.length := by omega
    by_cases hd : dp > 10
    · exact ⟨1048576, Ev.step (f := fun _ => some 1048576) (fun k => by simp only [trystlaw11_size.l1]; rw [if_pos (by omega), if_pos hd]) (Ev.now _)⟩
    by_cases hn : n > 50000
    · exact ⟨1048576, Ev.step (f := fun _ => some 1048576) (fun k => by simp only [trystlaw11_size.l1]; rw [if_pos (by omega), if_neg hd, if_pos hn]) (Ev.now _)⟩
    obtain ⟨r, hr⟩ := ih _ (List.getElem_mem hil) (wrap64 (dp + 1))
    obtain ⟨q, hq⟩ := ihd (i + 1) (wrap64 (n + r)) (by omega)
    exact ⟨q, Ev.step (fun k => by simp only [trystlaw11_size.l1]; rw [if_pos (by omega), if_neg hd, if_neg hn, if_pos (by omega), if_pos (by omega), rdRT ks i hil, wrapS i _ hil hl]) (Ev.bind hr hq)⟩
end Go.Proofs.YtdojmdbaiddkgaaDoor.Pure
end
section
set_option linter.unusedVariables false
set_option linter.unusedSimpArgs false
namespace Go.Proofs.YtdojmdbaiddkgaaDoor.Args
open Go Go.RowKit Go.Lib Go.Proofs.YtdojmdbaiddkgaaDoorW.PrintWords Go.Proofs.YtdojmdbaiddkgaaDoor.Print
abbrev RTree := S25
def RdN {α : Type} (N : Nat) (d : Kd α) (t : TypeId) (B : α → Prop) : Prop := ∀ (H : Type) (enc : TypeId × Value → H) (W : World) (fuel : Nat) (cs : List Value) (x : DataW H × List MemPlace), fuel ≤ N → DataW.trod enc Tryd.prog W 0 (fun _ => true) true fuel t cs = some x → (∀ n ∈ x.1.weights Tryd.prog t, n ≤ reachBytes) → ∃ a, d.K W a cs ∧ B a
theorem RdN.of {α : Type} {N : Nat} {d : Kd α} {t : TypeId} {B : α → Prop} (h : Rd d t B) : RdN N d t B := fun H enc W fuel cs x _ hx hw => h H enc W fuel cs x hx hw
theorem RdN.slice {α : Type} {N : Nat} {d : Kd α} {t e : TypeId} {B : α → Prop} (ht : Tryd.prog.underlying t = some (.slice e)) (hc : Tryd.prog.cellsOf e = d.sz) (hz : 0 < d.sz) (nb : Nat) (hnb : Tryd.prog.bytesOf e = nb) (hd : RdN N d e B) : RdN N (Kd.slice e d) t (fun l => l.length * nb ≤ 140737488351232 ∧ ∀ a ∈ l, B a) := by
  subst hnb
  intro H enc W fuel cs x hN h hw
  rcases DataW.trod_slice ht h with ⟨rfl, rfl⟩ | ⟨a, len, cap, elems, rest, n, rfl, rfl, rfl, _, hlc, hcm, hel, hget, _, _⟩
  · exact ⟨[], ⟨none, 0, rfl, Nat.le_refl _, rfl, by simp, fun h => absurd h (by simp)⟩, by simp, fun a h => by simp at h⟩
  · have hws : ∀ q ∈ ((DataW.slice (elems.map (·.1)) (rest.map (·.1))) : DataW H).weights Tryd.prog t, q ≤ reachBytes := hw
    simp only [DataW.weights, ht] at hws
    have hq : ∀ i, i < len → ∃ a', ∃ c : List Value, (c.length = d.sz ∧ d.K W a' c ∧ ∀ j u, c[j]? = some u → W.cell? (a.add (i * d.sz + j)) = some u) ∧ B a' := by
      intro i hi
      have h1 := hget i hi
      have hie : i < elems.length := by omega
      rw [List.getElem?_eq_getElem hie] at h1
      obtain ⟨cs', hcs, htr⟩ := Option.bind_eq_some_iff.1 h1
      obtain ⟨_, hcl, hcc⟩ := World.cells?_some hcs
      obtain ⟨a', hK, hB⟩ := hd H enc W n cs' elems[i] (by omega) htr (fun q hq => hws q (List.mem_cons_of_mem _ (List.mem_append_left _ (mem_weightsAll (List.mem_map.2 ⟨elems[i], List.getElem_mem hie, rfl⟩) q hq))))
      refine ⟨a', cs', ⟨by rw [hcl, hc], hK, fun j u hu => ?_⟩, hB⟩
      have hj : j < Tryd.prog.cellsOf e := by have := (List.getElem?_eq_some_iff.1 hu).1; omega
      have h2 := hcc j hj
      rw [Go.Deep.add_add, hc] at h2
      rw [h2, hu]
    obtain ⟨l, hl, hQ⟩ := exists_list len hq
    refine ⟨l, ⟨some a, cap, by rw [hl], by omega, rfl, by unfold maxLen at hcm; omega, fun _ => ⟨a, rfl, fun j p hj => ?_⟩⟩, ?_, fun p hp => ?_⟩
    · obtain ⟨c, ⟨h1, h2, h3⟩, _⟩ := hQ j p hj
      exact ⟨c, h1, h2, h3⟩
    · have := hws _ List.mem_cons_self
      rw [List.length_map, List.length_map, hel] at this
      rw [hl]
      refine Nat.le_trans (Nat.mul_le_mul_right _ (by omega)) this
    · obtain ⟨i, hi, rfl⟩ := List.mem_iff_getElem.1 hp
      exact (hQ i _ (List.getElem?_eq_getElem hi)).choose_spec.2
def RdFN {α : Type} (N : Nat) (d : Kd α) (ts : List TypeId) (B : α → Prop) : Prop := ∀ (H : Type) (enc : TypeId × Value → H) (W : World) (fuel : Nat) (cs : List Value) (xs : List (DataW H × List MemPlace)), fuel ≤ N → Trods enc W fuel ts cs xs → (∀ n ∈ DataW.weightsEach Tryd.prog ts (xs.map (·.1)), n ≤ reachBytes) → ∃ a, d.K W a cs ∧ B a
theorem RdFN.one {α : Type} {N : Nat} {d : Kd α} {t : TypeId} {B : α → Prop} (h : RdN N d t B) : RdFN N d [t] B := by
  intro H enc W fuel cs xs hN ht hw
  obtain ⟨c0, c1, x0, x1, rfl, rfl, h0, rfl, rfl⟩ := ht
  rw [List.append_nil]
  exact h H enc W fuel c0 x0 hN h0 (fun n hn => hw n (by simp only [List.map_cons, DataW.weightsEach]; exact List.mem_append_left _ hn))
theorem RdFN.cons {α β : Type} {N : Nat} {d0 : Kd α} {d1 : Kd β} {t : TypeId} {ts : List TypeId} {B0 : α → Prop} {B1 : β → Prop} (h0 : RdN N d0 t B0) (h1 : RdFN N d1 ts B1) : RdFN N (Kd.pair d0 d1) (t :: ts) (fun x => B0 x.1 ∧ B1 x.2) := by
  intro H enc W fuel cs xs hN ht hw
  obtain ⟨c0, c1, x0, x1, rfl, rfl, g0, g1⟩ := ht
  obtain ⟨a, ha, hb⟩ := h0 H enc W fuel c0 x0 hN g0 (fun n hn => hw n (by simp only [List.map_cons, DataW.weightsEach]; exact List.mem_append_left _ hn))
  obtain ⟨b, hb1, hb2⟩ := h1 H enc W fuel c1 x1 hN g1 (fun n hn => hw n (by simp only [List.map_cons, DataW.weightsEach]; exact List.mem_append_right _ hn))
  exact ⟨(a, b), ⟨c0, c1, rfl, ha, hb1⟩, hb, hb2⟩
theorem RdN.struct {α : Type} {N : Nat} {d : Kd α} {t : TypeId} {fs : Array Field} {B : α → Prop} (ht : Tryd.prog.underlying t = some (.struct fs)) (hc : contig Tryd.prog (Tryd.prog.cellsOf t) 0 fs.toList = true) (h : RdFN N d (fs.toList.map (·.type)) B) : RdN (N + 1) d t B := by
  intro H enc W fuel cs x hN hx hw
  obtain ⟨xs, n, rfl, rfl, hl, hlen, hf⟩ := DataW.trod_struct ht hx
  have hT := trods_of (enc := enc) (W := W) (n := n) (cs := cs) fs.toList xs 0 (by rw [hl]; exact hc) (by simpa using hlen) (fun i q hq => hf i q (by simpa using hq))
  rw [List.drop_zero] at hT
  exact h H enc W n cs xs (by omega) hT (fun q hq => hw q (by simp only [DataW.weights, ht]; exact hq))
theorem TBs_mk : ∀ l : List RTree, (∀ t ∈ l, Pure.TB t) → Pure.TBs l
  | [], _ => by simp [Pure.TBs]
  | t :: r, h => by
    simp only [Pure.TBs]
    exact ⟨h t (by simp), TBs_mk r (fun x hx => h x (by simp [hx]))⟩
theorem rdLineS : Rd k42 42 (fun x => LineB (x.f0, x.f1, x.f2)) :=
  Rd.struct (B := LineB) (fun x : S42 => (x.f0, x.f1, x.f2)) (fun a => ⟨a.1, a.2.1, a.2.2⟩) (fun _ => rfl) Tryd.underlying42 (by kernel_rfl) (RdF.cons (Rd.string Tryd.underlying9) (RdF.cons (Rd.slice (t := 40) Tryd.underlying40 (by kernel_rfl) (by decide) 40 (by kernel_rfl) rdPar) (RdF.one (Rd.string Tryd.underlying9))))
theorem LB_of {x : S42} (h : LineB (x.f0, x.f1, x.f2)) : Pure.LB x := ⟨by have := h.2.1.1; simp only at this; omega, fun p hp => by have := (h.2.1.2 p hp).2.1; omega⟩
theorem rdTree : ∀ N, RdN N k25 25 Pure.TB
  | 0 => by
    intro H enc W fuel cs x hN hx hw
    obtain ⟨xs, n, rfl, rfl, hl, hlen, hf⟩ := DataW.trod_struct Tryd.underlying25 hx
    omega
  | N + 1 => by
    intro H enc W fuel cs x hN hx hw
    have h := RdN.struct (N := N) (d := Kd.pair Kd.string (Kd.pair (Kd.slice 42 k42) (Kd.slice 25 k25))) Tryd.underlying25 (by kernel_rfl)
      (RdFN.cons (RdN.of (Rd.string Tryd.underlying9)) (RdFN.cons (RdN.of (Rd.slice (t := 22) Tryd.underlying22 (by kernel_rfl) (by decide) 56 (by kernel_rfl) rdLineS)) (RdFN.one (RdN.slice (t := 23) Tryd.underlying23 (by kernel_rfl) (by decide) 64 (by kernel_rfl) (rdTree N)))))
    obtain ⟨⟨a, l, ks⟩, ha, hB⟩ := h H enc W fuel cs x hN hx hw
    obtain ⟨_, _, rfl, rfl, ⟨_, _, rfl, ⟨A1, c1, rfl, l1, g1⟩, ⟨A2, c2, rfl, l2, g2⟩⟩⟩ := ha
    refine ⟨⟨a, l, ks⟩, k25_mk W ⟨a, l, ks⟩ l1 g1 l2 g2, ?_⟩
    simp only [Pure.TB]
    have b1 := hB.2.1.1
    have b2 := hB.2.2.1
    simp only at b1 b2
    exact ⟨⟨by omega, fun x hx => LB_of (hB.2.1.2 x hx)⟩, by omega, TBs_mk _ hB.2.2.2⟩
/-- A tree, as the walks ask for it. -/
def IsTree (W : World) (v : Value) (z : RTree) : Prop := Pure.TB z ∧ ∃ A1 c1 A2 c2, v = .agg #[.string z.f0, .slice A1 z.f1.length c1, .slice A2 z.f2.length c2] ∧ z.f1.length ≤ c1 ∧ Kd.C k42 W A1 z.f1.length z.f1 ∧ z.f2.length ≤ c2 ∧ Kd.C k25 W A2 z.f2.length z.f2
set_option maxRecDepth 100000 in
theorem openTree {v : Value} {H : Type} {enc : TypeId × Value → H} {W : World} {r : Reach} {b0 : Nat} {d : DataW H} {p : List MemPlace} (hv : Value.okWide Tryd.prog W r b0 25 v) (hd : DataW.Trod enc Tryd.prog W 0 (fun _ => true) true 25 v d p) (hw : ∀ n ∈ d.weights Tryd.prog 25, n ≤ reachBytes) : ∃ z, IsTree W v z := by
  obtain ⟨z, cs, rfl, hK, hB⟩ := agg_of Tryd.underlying25 (fun H enc W fuel cs x hx hw => rdTree fuel H enc W fuel cs x (Nat.le_refl _) hx hw) hv hd hw
  obtain ⟨A1, c1, A2, c2, rfl, l1, g1, l2, g2⟩ := k25_open hK
  exact ⟨z, hB, A1, c1, A2, c2, rfl, l1, g1, l2, g2⟩
end Go.Proofs.YtdojmdbaiddkgaaDoor.Args
end
section
set_option linter.unusedVariables false
set_option linter.unusedSimpArgs false
namespace Go.Proofs.YtdojmdbaiddkgaaDoor.Print
open Go.RowKit Go.Proofs.YtdojmdbaiddkgaaDoorW.PrintWords Go.Proofs.YtdojmdbaiddkgaaDoorW.PrintLast Go.Proofs.YtdojmdbaiddkgaaDoorW.PrintMore
theorem eqlS_some (q : Addr) (n c : Nat) (w : World) : (binOp .eql 57 (.slice (some q) n c) (.slice none 0 0)).run Tryd.prog w = .ok (.bool false) w := by kernel_rfl
theorem eqlS_none (n c : Nat) (w : World) : (binOp .eql 57 (.slice none n c) (.slice none 0 0)).run Tryd.prog w = .ok (.bool true) w := by kernel_rfl
theorem eqlP_some (q : Addr) (n c : Nat) (w : World) : (binOp .eql 35 (.slice (some q) n c) (.slice none 0 0)).run Tryd.prog w = .ok (.bool false) w := by kernel_rfl
theorem eqlP_none (n c : Nat) (w : World) : (binOp .eql 35 (.slice none n c) (.slice none 0 0)).run Tryd.prog w = .ok (.bool true) w := by kernel_rfl
set_option maxHeartbeats 1000000 in
set_option maxRecDepth 100000 in
theorem cloneS_some (A : Addr) (c : Nat) (xs : List ByteArray) (w : World) (h : Kd.C Kd.string w (some A) xs.length xs) (hl : xs.length < 8796093022208) :
    Calls Tryd.prog 29 #[.slice (some A) xs.length c] w fun e w' => ∃ v, e = .returned v ∧ Kd.R Kd.string 9 w' w.heap.size (fun _ => True) v xs ∧ Below w.heap.size w w' := by
  have H := Aside0.mk h
  have HL := Aside0.mk hl
  have hnil := eqlS_some A xs.length c
  clear h hl
  go_enter Tryd.func29, Tryd.ntmps29
  go_wp2_with (first
    | (refine Kd.R_lit Kd.string (w0 := w) w.heap.size 9 (by rfl) (N := 5) (by rfl) (xs := ([] : List ByteArray)) (inner := []) (ok := fun _ => True) (okp := fun _ => True) (by first | (go_simp; done) | (go_simp; rfl)) (Reps.none _ _) (fun _ h => h) trivial (Below.refl _ _) (Nat.le_refl _) (by simp) ?_; intro v1 w1 hR hB hg hat)
    | (refine Kd.R_append_rows Kd.string (w0 := w) w.heap.size (by rfl) (.tmp 5) (.tmp 6) 57 9 (.string ⟨#[]⟩) 16 (by rfl) Tryd.underlying57 info9 rfl (by decide) (by omega) v1 [] xs (some A) xs.length c (fun _ => True) (fun _ => False) (by rfl) (by rfl) hR (Kd.C_below H.out hB) (fun _ _ h => h) (fun _ h => h.elim) (fun _ _ => trivial) hB hB.size (by have := HL.out; simp only [List.length_nil]; omega) ?_; intro v2 w2 hR2 hB2 hg2 hat2))
  go_ret
  exact ⟨_, rfl, hR2, hB2⟩
theorem cloneS_none (n c : Nat) (w : World) :
    Calls Tryd.prog 29 #[.slice none n c] w fun e w' => e = .returned (.slice none 0 0) ∧ Below w.heap.size w w' := by
  have hnil := eqlS_none n c
  go_enter Tryd.func29, Tryd.ntmps29
  go_wp2_with fail
  go_ret
  exact ⟨rfl, Below.refl _ _⟩
theorem cloneS (A : Option Addr) (c : Nat) (xs : List ByteArray) (w : World) (h : Kd.C Kd.string w A xs.length xs) (hl : xs.length < 8796093022208) :
    Calls Tryd.prog 29 #[.slice A xs.length c] w fun e w' => ∃ v, e = .returned v ∧ Kd.R Kd.string 9 w' w.heap.size (fun _ => True) v xs ∧ Below w.heap.size w w' := by
  cases A with
  | some A => exact cloneS_some A c xs w h hl
  | none =>
    refine (cloneS_none _ c w).mono ?_
    rintro e w' ⟨rfl, hB⟩
    have : xs = [] := by
      cases xs with
      | nil => rfl
      | cons x t => obtain ⟨ad, hA, _⟩ := h.2.2 (by simp); cases hA
    subst this
    exact ⟨_, rfl, Kd.R_nil _ _ _ _ _, hB⟩
set_option maxHeartbeats 1000000 in
set_option maxRecDepth 100000 in
theorem cloneP_some (A : Addr) (c : Nat) (xs : List (List Value)) (w : World) (h : Kd.C (Kd.raw 2) w (some A) xs.length xs) (hl : xs.length < 3518437208883) :
    Calls Tryd.prog 28 #[.slice (some A) xs.length c] w fun e w' => ∃ v, e = .returned v ∧ Kd.R (Kd.raw 2) 59 w' w.heap.size (fun _ => True) v xs ∧ Below w.heap.size w w' := by
  have H := Aside0.mk h
  have HL := Aside0.mk hl
  have hnil := eqlP_some A xs.length c
  clear h hl
  go_enter Tryd.func28, Tryd.ntmps28
  go_wp2_with (first
    | (refine Kd.R_lit (Kd.raw 2) (w0 := w) w.heap.size 59 (by rfl) (N := 5) (by rfl) (xs := ([] : List (List Value))) (inner := []) (ok := fun _ => True) (okp := fun _ => True) (by first | (go_simp; done) | (go_simp; rfl)) (Reps.none _ _) (fun _ h => h) trivial (Below.refl _ _) (Nat.le_refl _) (by simp) ?_; intro v1 w1 hR hB hg hat)
    | (refine Kd.R_append_rows (Kd.raw 2) (w0 := w) w.heap.size (by rfl) (.tmp 5) (.tmp 6) 35 59 (.agg #[.string ⟨#[]⟩, .slice none 0 0]) 40 (by rfl) Tryd.underlying35 info59 rfl (by decide) (by omega) v1 [] xs (some A) xs.length c (fun _ => True) (fun _ => False) (by rfl) (by rfl) hR (Kd.C_below H.out hB) (fun _ _ h => h) (fun _ h => h.elim) (fun _ _ => trivial) hB hB.size (by have := HL.out; simp only [List.length_nil]; omega) ?_; intro v2 w2 hR2 hB2 hg2 hat2))
  go_ret
  exact ⟨_, rfl, hR2, hB2⟩
theorem cloneP_none (n c : Nat) (w : World) :
    Calls Tryd.prog 28 #[.slice none n c] w fun e w' => e = .returned (.slice none 0 0) ∧ Below w.heap.size w w' := by
  have hnil := eqlP_none n c
  go_enter Tryd.func28, Tryd.ntmps28
  go_wp2_with fail
  go_ret
  exact ⟨rfl, Below.refl _ _⟩
theorem cloneP (A : Option Addr) (c : Nat) (xs : List (List Value)) (w : World) (h : Kd.C (Kd.raw 2) w A xs.length xs) (hl : xs.length < 3518437208883) :
    Calls Tryd.prog 28 #[.slice A xs.length c] w fun e w' => ∃ v, e = .returned v ∧ Kd.R (Kd.raw 2) 59 w' w.heap.size (fun _ => True) v xs ∧ Below w.heap.size w w' := by
  cases A with
  | some A => exact cloneP_some A c xs w h hl
  | none =>
    refine (cloneP_none _ c w).mono ?_
    rintro e w' ⟨rfl, hB⟩
    have : xs = [] := by
      cases xs with
      | nil => rfl
      | cons x t => obtain ⟨ad, hA, _⟩ := h.2.2 (by simp); cases hA
    subst this
    exact ⟨_, rfl, Kd.R_nil _ _ _ _ _, hB⟩
end Go.Proofs.YtdojmdbaiddkgaaDoor.Print
end
section
set_option linter.unusedVariables false
set_option linter.unusedSimpArgs false
namespace Go.Proofs.YtdojmdbaiddkgaaDoor.Print
open Go.RowKit Go.Proofs.YtdojmdbaiddkgaaDoorW.PrintWords Go.Proofs.YtdojmdbaiddkgaaDoorW.PrintLast Go.Proofs.YtdojmdbaiddkgaaDoorW.PrintMore
theorem ex_list {α : Type} {Q : Nat → α → Prop} : ∀ (n : Nat), (∀ i, i < n → ∃ a, Q i a) → ∃ l : List α, l.length = n ∧ ∀ i a, l[i]? = some a → Q i a
  | 0, _ => ⟨[], rfl, fun i a h => by simp at h⟩
  | n + 1, h => by
    obtain ⟨l, hl, hq⟩ := ex_list n (fun i hi => h i (by omega))
    obtain ⟨a, ha⟩ := h n (by omega)
    refine ⟨l ++ [a], by simp [hl], fun i b hb => ?_⟩
    by_cases hi : i < n
    · rw [List.getElem?_append_left (by omega)] at hb; exact hq i b hb
    · have hlt := (List.getElem?_eq_some_iff.1 hb).1
      rw [List.length_append, List.length_singleton] at hlt
      obtain rfl : i = n := by omega
      rw [List.getElem?_append_right (by omega), hl, Nat.sub_self] at hb
      obtain rfl : a = b := by simpa using hb
      exact ha
/-- The cells of a row that is read. -/
theorem raw_of {α : Type} {d : Kd α} {w : World} {A : Option Addr} {xs : List α} (h : Kd.C d w A xs.length xs) : ∃ rows : List (List Value), rows.length = xs.length ∧ Kd.C (Kd.raw d.sz) w A rows.length rows ∧ ∀ (j : Nat) (x : α) (c : List Value), xs[j]? = some x → rows[j]? = some c → d.K w x c := by
  have hq : ∀ i, i < xs.length → ∃ c : List Value, ∃ ad, A = some ad ∧ c.length = d.sz ∧ (∀ x, xs[i]? = some x → d.K w x c) ∧ ∀ j u, c[j]? = some u → w.cell? (ad.add (i * d.sz + j)) = some u := by
    intro i hi
    obtain ⟨ad, hA, hc⟩ := h.2.2 (by omega)
    obtain ⟨c, h1, h2, h3⟩ := hc i _ (List.getElem?_eq_getElem hi)
    exact ⟨c, ad, hA, h1, fun x hx => by rw [List.getElem?_eq_getElem hi] at hx; obtain rfl := Option.some.inj hx; exact h2, h3⟩
  obtain ⟨rows, hl, hQ⟩ := ex_list xs.length hq
  refine ⟨rows, hl, ⟨rfl, by rw [hl]; exact h.2.1, fun hp => ?_⟩, fun j x c hx hc => ?_⟩
  · obtain ⟨ad, hA, _⟩ := h.2.2 (by omega)
    refine ⟨ad, hA, fun j c hc => ?_⟩
    obtain ⟨ad', hA', h1, h2, h3⟩ := hQ j c hc
    obtain rfl : ad = ad' := by rw [hA] at hA'; exact Option.some.inj hA'
    have hj : j < xs.length := by have := (List.getElem?_eq_some_iff.1 hc).1; omega
    exact ⟨c, h1, ⟨rfl, h1, d.K_one (h2 _ (List.getElem?_eq_getElem hj))⟩, h3⟩
  · obtain ⟨ad', hA', h1, h2, h3⟩ := hQ j c hc
    exact h2 x hx
/-- A cell of a row's element changed. -/
theorem raw_put {w : World} {base g n cap : Nat} {ok : Nat → Prop} {rows : List (List Value)} (h : (Kd.raw 2).R 59 w base ok (.slice (some ⟨g, 0, none⟩) n cap) rows) {i : Nat} {a b u : Value} (hi : rows[i]? = some [a, b]) (hu : u.oneCell' = true) :
    (Kd.raw 2).R 59 (w.setCell ⟨g, i * 2 + 1, none⟩ u) base ok (.slice (some ⟨g, 0, none⟩) n cap) (rows.set i [a, u]) := by
  obtain ⟨h0, inner, ho, hr⟩ := h
  have hil : i < rows.length := (List.getElem?_eq_some_iff.1 hi).1
  refine ⟨h0, inner.set (i * 2 + 1) u, ?_, ?_⟩
  · rcases ho with ⟨hl, ⟨hv, _⟩ | ⟨g', cap', cur, hv, h1, h2, h3, h4, h5, h6⟩⟩
    · cases hv
    · injection hv with e1 e2 e3
      injection e1 with e1
      injection e1 with e1
      subst e1 e3
      refine ⟨by rw [List.length_set, List.length_set]; exact hl, .inr ⟨g, cap, cur.setIfInBounds (i * 2 + 1) u, by rw [List.length_set, e2], h1, blk_set h2 _ u, by rw [List.length_set]; exact h3, h4, by rw [Array.size_setIfInBounds]; exact h5, ?_⟩⟩
      rw [List.length_set, Array.toList_setIfInBounds, ← h6, List.take_set]
  · refine ⟨by rw [List.length_set, List.length_set]; exact hr.1, fun j p hj => ?_⟩
    by_cases hji : j = i
    · subst hji
      rw [List.getElem?_set_self (by omega)] at hj
      obtain rfl := Option.some.inj hj
      obtain ⟨e1, e2, e3⟩ := hr.2 j [a, b] hi
      have e1 : (inner.drop (j * 2)).take 2 = [a, b] := e1
      have k : ((inner.set (j * 2 + 1) u).drop (j * 2)).take 2 = [a, u] := by
        rw [List.drop_set, if_neg (by omega), show j * 2 + 1 - j * 2 = 1 by omega, List.take_set, e1]; rfl
      refine ⟨k, by show (((inner.set (j * 2 + 1) u).drop (j * 2)).take 2).length = 2; rw [k]; rfl, fun q hq => ?_⟩
      have hq : q ∈ ((inner.set (j * 2 + 1) u).drop (j * 2)).take 2 := hq
      rw [k] at hq
      rcases List.mem_cons.1 hq with rfl | hq
      · exact e3 q (by show q ∈ (inner.drop (j * 2)).take 2; rw [e1]; simp)
      · rw [List.mem_singleton.1 hq]; exact hu
    · rw [List.getElem?_set_ne (by omega)] at hj
      have h1 := hr.2 j p hj
      have k : ((inner.set (i * 2 + 1) u).drop (j * 2)).take 2 = (inner.drop (j * 2)).take 2 := by
        by_cases hlt : i < j
        · rw [List.drop_set, if_pos (by omega)]
        · rw [List.drop_set, if_neg (by omega), List.take_set, List.set_eq_of_length_le (by rw [List.length_take]; omega)]
      show (Kd.raw 2).M _ _ _ p (((inner.set (i * 2 + 1) u).drop (j * 2)).take 2)
      rw [k]
      exact h1
end Go.Proofs.YtdojmdbaiddkgaaDoor.Print
end
