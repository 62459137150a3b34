/- Texts of the proof of TreePrints, put together: Print5 PLine0T Print6 PTree TArgs Print12 Print13 PUtf0 PUtf LAt Print7 Print8 ParSpec Repl ReplL ReplN ReplB ReplO. -/
import Derived.Test.YtdojmdbaiddkgaaGreatDoorProg
import Derived.Below
import Derived.Deep.Draws
import Derived.Deep.AppendLies
import Derived.Maps.AppendAt
import Derived.OwnWalk
import Derived.Laws.BytesArg
import Derived.Laws.MakeOwn
import Derived.Laws.OwnMore
import Derived.Deep.OwnRows
import Derived.Tactics
import Derived.Lib.ConvBytes
import Derived.Laws.Slices
import Derived.WalkKit
import Derived.KernelRfl
import Derived.RowKit3
import Derived.Deep.LoopGhost
import Derived.Deep.QuietTactic
import Derived.BigQuiet
import Derived.WideLaws
import Derived.Deep.DeepCutAuto
import Derived.Deep.CutBlock
import Derived.Deep.RegionHeld3
import Derived.Laws.Rows
import Derived.Lib.AppendStr
import Derived.ArgAppend
import Derived.Laws.IdiomCopy
import Derived.OrdersHeld
import Derived.Laws.BitsLemmas
import Derived.RowKit
import Derived.Shelf.Unicode.ValidAny
import Derived.Shelf.Strings.Builder1
import Derived.Shelf.Strings.Builder2
import Derived.Shelf.Small.Utf8
import Derived.Shelf.Small.Strs
import Derived.Shelf.Strings.BuilderF
import Derived.Shelf.Strings.BuilderK
import Derived.Shelf.Strings.Builder2Cap
import Derived.Shelf.Strings.Search1
import Derived.Shelf.Strings.Search2
import Derived.Shelf.Strings.Search3
import Derived.Shelf.Strings.Count
import Derived.Shelf.LaysM
import Derived.Shelf.Strings.Shaped
import Derived.Shelf.Strings.Prefix
import Derived.Shelf.Strings.Runes
import Derived.Shelf.Strings.IndexAny
import Derived.Shelf.Strings.AsciiSet
import Derived.Shelf.Strings.IndexAnyAll
import Derived.Shelf.Unicode.DecodeSlow
import Derived.Shelf.Unicode.DecodeAny
import Derived.Shelf.Strings.BuilderCap
import Derived.Shelf.Slices.Equal
import Derived.Shelf.Slices.Empties2
import Derived.WalkSpells
import Derived.Laws.Runes
import Derived.Laws.RangeAny
import Derived.Laws.RangeString
import Derived.Lib.IndexAny
import Derived.Lib.SpaceUEq
import Derived.Lib.RuneCount
import Derived.Lib.QuoteLoop
import Derived.Lib.Hide
import Derived.Lib.OthersKept
import Derived.Lib.DecodeN
import Derived.IntWalk
import Derived.Test.YtdojmdbaiddkgaaGreatDoorWWords
import Derived.Test.YtdojmdbaiddkgaaGreatDoorWLast
import Derived.Test.YtdojmdbaiddkgaaGreatDoorWTab
import Derived.Test.YtdojmdbaiddkgaaGreatDoorWApart
import Derived.Test.YtdojmdbaiddkgaaGreatDoorWRepsOne
import Derived.Test.YtdojmdbaiddkgaaGreatDoorWGuard
import Derived.Laws.IdiomStrings
import Derived.Outline
import Derived.Deep.RegionWith
import Derived.RegionCalls
import Derived.Lib.SmallJoins
import Derived.SliceStrings
import Derived.ProofKit
import Derived.SizedLaws
import Derived.Deep.Slices
import Derived.Lib.ValidU
import Derived.Lib.TrimUEq
import Derived.Lib.ValidLaws
import Derived.Lib.MapLaws
import Derived.Laws.CopyRow
import Derived.Laws.CopyOwn
import Derived.Deep.WholeRow
import Derived.Tactics2
import Derived.Defers
import Derived.Laws.Pointers
import Derived.Laws.LoneSync
import Derived.RegionTactic
import Derived.Test.YtdojmdbaiddkgaaGreatDoorQTreePrintsA
section
namespace Go.Proofs.YtdojmdbaiddkgaaGreatDoor.Print
open Go.RowKit Go.Proofs.YtdojmdbaiddkgaaGreatDoorW.PrintWords Go.Proofs.YtdojmdbaiddkgaaGreatDoorW.PrintLast
set_option linter.unusedVariables false
set_option linter.unusedSimpArgs false
def trystlaw10_Theirs.l0 : Nat → Int → Int → ByteArray → List (S76) → ByteArray → ByteArray → List (S77) → ByteArray → Option (ByteArray × (List (S77)) × ByteArray)
 | 0, _, _, _, _, _, _, _, _ => none
 | k + 1, x12, x13, x158000, x158001, x158002, x160000, x160001, x160002 => if x13 < x12 then (if 0 ≤ x13 then (if x13 < (x158001.length : Int) then ((some (([] : List ByteArray) : List ByteArray)).bind fun y161 => (if y161.length + ((rd_T76 x158001 x13).f1).length < 8796093022208 then (if x160001.length < 3518437208883 then (trystlaw10_Theirs.l0 k x12 (wrap64 (x13 + 1)) x158000 x158001 x158002 x160000 (x160001 ++ [(⟨(rd_T76 x158001 x13).f0, (y161 ++ ((rd_T76 x158001 x13).f1))⟩ : S77)]) x160002) else (none)) else (none))) else (none)) else (none)) else (some (x160000, x160001, x160002))
def trystlaw10_Theirs.f (k : Nat) (a0_0 : ByteArray) (l0_1 : List (S76)) (a0_2 : ByteArray) : Option (ByteArray × (List (S77)) × ByteArray) := trystlaw10_Theirs.l0 k (l0_1.length : Int) 0 a0_0 l0_1 a0_2 a0_0 ([] : List (S77)) a0_2
def trystlaw10_Theirs.T5 : Bool × List (List Nat × List Nat) := (true, [([], []), ([0], [0]), ([], []), ([2], [2]), ([], []), ([3, 4], [3, 4]), ([5], [5]), ([6], [6]), ([], []), ([], []), ([9], [9]), ([], []), ([10, 11], [10, 11]), ([12], [12]), ([13], [13]), ([8, 14], [8, 14]), ([7, 15], [7, 15]), ([16], [16]), ([1, 17, 15], [1, 17]), ([0, 1, 2, 3, 4, 5, 6, 7, 8, 9, 10, 11, 12, 13, 14, 15, 16, 17, 18], []), ([19, 18, 18, 0, 1, 2, 3, 4, 5, 6, 7, 8, 9, 10, 11, 12, 13, 14, 15, 16, 17, 18], [18, 19])])
def trystlaw10_Theirs.B5 : List Nat := [0, 1, 0, 4, 0, 28, 60, 124, 0, 0, 512, 0, 3584, 7680, 15872, 32512, 65532, 131068, 262143, 524287, 1048575]
theorem trystlaw10_Theirs.tab5 : rtab .any (opsOf Tryz.f20 5) = trystlaw10_Theirs.T5 := by kernel_rfl
theorem trystlaw10_Theirs.bits5 : waitsOk trystlaw10_Theirs.T5.2 trystlaw10_Theirs.B5 = true := by kernel_rfl
set_option maxHeartbeats 8000000 in
set_option maxRecDepth 100000 in
theorem trystlaw10_Theirs.calls (k : Nat) (a0_0 : ByteArray) (A0_1 : Option Addr) (c0_1 : Nat) (l0_1 : List (S76)) (a0_2 : ByteArray) (r1 : ByteArray) (r2 : List (S77)) (r3 : ByteArray) (w : World) (hG : GG w) (hr0_1 : Kd.C k76 w A0_1 l0_1.length l0_1) (hc0_1 : l0_1.length ≤ c0_1) (h : trystlaw10_Theirs.f k a0_0 l0_1 a0_2 = some (r1, r2, r3)) :
  Calls Tryz.prog 20 #[.agg #[.string a0_0, .slice A0_1 l0_1.length c0_1, .string a0_2]] w fun e w' => ∃ v1_ : Value, e = .returned (.agg #[.string r1, v1_, .string r3]) ∧ Kd.S k77 77 w' w.heap.size (fun _ => True) v1_ r2 ∧ Below w.heap.size w w' := by
 have hu53 := Tryz.underlying53; have hu49 := Tryz.underlying49; have hu77 := Tryz.underlying77; have HR0_1 := Aside0.mk hr0_1; have HC0_1 := Aside0.mk hc0_1; clear hr0_1 hc0_1; have HB := Aside0.mk (Below.refl w.heap.size w); have H : (trystlaw10_Theirs.l0 k (l0_1.length : Int) 0 a0_0 l0_1 a0_2 a0_0 ([] : List (S77)) a0_2) = some (r1, r2, r3) := h; clear h; have H' := Aside0.mk H; clear H
 go_enter Tryz.func20, Tryz.ntmps20
 go_wp2_with (first | ((with_reducible refine gate_dst (N := 1) rfl ?_); refine zbox (N := 1) #[.string a0_0, .slice A0_1 l0_1.length c0_1, .string a0_2] 53 (fun gb157 hg w2 hbox hb => ?_); have n0_ := zw hb; have n1_ := Aside0.mk hbox; have n2_ := zg w hg; have n3_ := zg w hg; clear HB; have HB := n0_; have BK157 := n1_; have GW157 := n2_; have GE157 := n3_; clear n0_ n1_ n2_ n3_; clear hb hbox hg) | ((with_reducible refine gate_dst (N := 2) rfl ?_); refine zbox (N := 2) #[.string (⟨#[]⟩ : ByteArray), .slice none 0 0, .string (⟨#[]⟩ : ByteArray)] 49 (fun gb158 hg w3 hbox hb => ?_); replace BK158 := Aside0.mk hbox; replace GW158 := zg w hg; replace GE158 := zg w hg; replace HB := zw hb; replace NB157_158 := zn BK157 hg; replace NB158_157 := zm BK157 hg; replace BK157 := zb BK157 hb; clear hb hbox hg; have hnb4 := NB157_158.out; have hnc4 := NB158_157.out; have hcz5_0 := zc0 BK157; have hcz5_1 := zc1 BK157; have hcz5_2 := zc2 BK157; have hfz5_0 := zf BK157 0; have hfz5_1 := zf BK157 1; have hfz5_2 := zf BK157 2) | ((with_reducible refine gate_dst (N := 3) rfl ?_); refine zbox (N := 3) #[.string (⟨#[]⟩ : ByteArray), .slice none 0 0, .string (⟨#[]⟩ : ByteArray)] 49 (fun gb159 hg w6 hbox hb => ?_); replace BK159 := Aside0.mk hbox; replace GW159 := zg w hg; replace GE159 := zg w hg; replace HB := zw hb; replace NB157_159 := zn BK157 hg; replace NB159_157 := zm BK157 hg; replace BK157 := zb BK157 hb; replace NB158_159 := zn BK158 hg; replace NB159_158 := zm BK158 hg; replace BK158 := zb BK158 hb; clear hb hbox hg; have hnb7 := NB159_157.out; have hnc7 := NB157_159.out; have hnb8 := NB159_158.out; have hnc8 := NB158_159.out; have hcz9_0 := zc0 BK159; have hcz9_1 := zc1 BK159; have hcz9_2 := zc2 BK159; have hfz9_0 := zf BK159 0; have hfz9_1 := zf BK159 1; have hfz9_2 := zf BK159 2; have hcz10_0 := zc0 BK157; have hcz10_1 := zc1 BK157; have hcz10_2 := zc2 BK157; have hfz10_0 := zf BK157 0; have hfz10_1 := zf BK157 1; have hfz10_2 := zf BK157 2))
 go_loopg [13] k (fun kq v13 w' => ∃ (x13_1 : Int) (x160001_1 : List (S77)) (u160001 : Value), v13 = .int .i64 x13_1 ∧ Aside0 (trystlaw10_Theirs.l0 kq (l0_1.length : Int) x13_1 a0_0 l0_1 a0_2 a0_0 x160001_1 a0_2 = some (r1, r2, r3)) ∧ Aside0 (kq ≤ k) ∧ Aside0 (Kd.S k77 77 w' w.heap.size (fun _ => True) u160001 x160001_1) ∧ Aside0 (w'.heap[gb157]? = some (.cells #[.string a0_0, (.slice A0_1 l0_1.length c0_1), .string a0_2] 53 (0, 0))) ∧ Aside0 (w'.heap[gb158]? = some (.cells #[.string (⟨#[]⟩ : ByteArray), (.slice none 0 0), .string (⟨#[]⟩ : ByteArray)] 49 (0, 0))) ∧ Aside0 (w'.heap[gb159]? = some (.cells #[.string a0_0, u160001, .string a0_2] 49 (0, 0))) ∧ Aside0 (Below w.heap.size w w'))
 case atStart => exact ⟨(0), (([] : List (S77))), (.slice none 0 0), zS, H', ⟨Nat.le_refl _⟩, ⟨by first | exact Kd.S_nil _ _ _ _ _ | exact Kd.N_nil _ _ _ _ _ | exact Kd.V_nil _ _ _ _ _ | exact Kd.Q_nil _ _ _ _ _ | exact Kd.R_nil _ _ _ _ _⟩, ⟨by (with_reducible repeat (first | refine blk_drewN ?_ _ | refine blk_drew ?_ | refine blk_alloc ?_ _)); refine blk_far ?_ NB157_159.out _; (with_reducible repeat (first | refine blk_drewN ?_ _ | refine blk_drew ?_ | refine blk_alloc ?_ _)); refine blk_far ?_ NB157_159.out _; (with_reducible repeat (first | refine blk_drewN ?_ _ | refine blk_drew ?_ | refine blk_alloc ?_ _)); refine blk_far ?_ NB157_159.out _; (with_reducible repeat (first | refine blk_drewN ?_ _ | refine blk_drew ?_ | refine blk_alloc ?_ _)); exact BK157.out⟩, ⟨by (with_reducible repeat (first | refine blk_drewN ?_ _ | refine blk_drew ?_ | refine blk_alloc ?_ _)); refine blk_far ?_ NB158_159.out _; (with_reducible repeat (first | refine blk_drewN ?_ _ | refine blk_drew ?_ | refine blk_alloc ?_ _)); refine blk_far ?_ NB158_159.out _; (with_reducible repeat (first | refine blk_drewN ?_ _ | refine blk_drew ?_ | refine blk_alloc ?_ _)); refine blk_far ?_ NB158_159.out _; (with_reducible repeat (first | refine blk_drewN ?_ _ | refine blk_drew ?_ | refine blk_alloc ?_ _)); exact BK158.out⟩, ⟨by (with_reducible repeat (first | refine blk_drewN ?_ _ | refine blk_drew ?_ | refine blk_alloc ?_ _)); refine blk_put (cs := #[.string a0_0, .slice none 0 0, .string (⟨#[]⟩ : ByteArray)]) ?_ 2 _ rfl; (with_reducible repeat (first | refine blk_drewN ?_ _ | refine blk_drew ?_ | refine blk_alloc ?_ _)); refine blk_put (cs := #[.string a0_0, .slice none 0 0, .string (⟨#[]⟩ : ByteArray)]) ?_ 1 _ rfl; (with_reducible repeat (first | refine blk_drewN ?_ _ | refine blk_drew ?_ | refine blk_alloc ?_ _)); refine blk_put (cs := #[.string (⟨#[]⟩ : ByteArray), .slice none 0 0, .string (⟨#[]⟩ : ByteArray)]) ?_ 0 _ rfl; (with_reducible repeat (first | refine blk_drewN ?_ _ | refine blk_drew ?_ | refine blk_alloc ?_ _)); exact BK159.out⟩, ⟨zB⟩⟩
 case round =>
  clear H'; clear hcz10_0 hcz10_1 hcz10_2 hcz5_0 hcz5_1 hcz5_2 hcz9_0 hcz9_1 hcz9_2 hfz10_0 hfz10_1 hfz10_2 hfz5_0 hfz5_1 hfz5_2 hfz9_0 hfz9_1 hfz9_2; obtain ⟨x13_1, x160001_1, u160001, rfl, HA, HK1, HO_160001, BK157, BK158, BK159, HB⟩ := hrel
  cases gk with
  | zero => exact absurd HA.out (by simp [trystlaw10_Theirs.l0])
  | succ k1 =>
   have H := HA.out; clear HA; simp only [trystlaw10_Theirs.l0] at H; replace H := zId H; rcases H with ⟨-, c11b0, H⟩ | ⟨-, c11b0, H⟩
   ·replace H := zJd H; obtain ⟨-, c12b0, H⟩ := H; replace H := zJd H; obtain ⟨-, c13b0, H⟩ := H; obtain ⟨y161, hy161⟩ : ∃ y_ : List ByteArray, y_ = (([] : List ByteArray)) := ⟨_, rfl⟩; replace H : (if y161.length + ((rd_T76 l0_1 x13_1).f1).length < 8796093022208 then (if x160001_1.length < 3518437208883 then (trystlaw10_Theirs.l0 k1 (l0_1.length : Int) (wrap64 (x13_1 + 1)) a0_0 l0_1 a0_2 a0_0 (x160001_1 ++ [(⟨(rd_T76 l0_1 x13_1).f0, (y161 ++ ((rd_T76 l0_1 x13_1).f1))⟩ : S77)]) a0_2) else (none)) else (none)) = some (r1, r2, r3) := by first | (rw [hy161]; with_reducible exact H) | (have H2_ := (Option.bind_some _ _).symm.trans H; rw [hy161]; with_reducible exact H2_) | (have H2_ := (Option.bind_some _ _).symm.trans H; with_reducible exact H2_) | with_reducible exact H | (rw [hy161]; exact H) | exact H
    have Ny161 := Aside0.mk hy161; clear hy161; replace H := zJ H; obtain ⟨c14, H⟩ := H; have LMc14 := Aside0.mk c14; clear c14; obtain ⟨y165, hy165⟩ : ∃ y_ : List ByteArray, y_ = (y161 ++ ((rd_T76 l0_1 x13_1).f1)) := ⟨_, rfl⟩; replace H : (if x160001_1.length < 3518437208883 then (trystlaw10_Theirs.l0 k1 (l0_1.length : Int) (wrap64 (x13_1 + 1)) a0_0 l0_1 a0_2 a0_0 (x160001_1 ++ [(⟨(rd_T76 l0_1 x13_1).f0, y165⟩ : S77)]) a0_2) else (none)) = some (r1, r2, r3) := by first | (rw [hy165]; with_reducible exact H) | (have H2_ := (Option.bind_some _ _).symm.trans H; rw [hy165]; with_reducible exact H2_) | (have H2_ := (Option.bind_some _ _).symm.trans H; with_reducible exact H2_) | with_reducible exact H | (rw [hy165]; exact H) | exact H
    have Ny165 := Aside0.mk hy165; clear hy165; replace H := zJ H; obtain ⟨c15, H⟩ := H; have LMc15 := Aside0.mk c15; clear c15; obtain ⟨y168, hy168⟩ : ∃ y_ : List (S77), y_ = (x160001_1 ++ [(⟨(rd_T76 l0_1 x13_1).f0, y165⟩ : S77)]) := ⟨_, rfl⟩; replace H : (trystlaw10_Theirs.l0 k1 (l0_1.length : Int) (wrap64 (x13_1 + 1)) a0_0 l0_1 a0_2 a0_0 y168 a0_2) = some (r1, r2, r3) := by first | (rw [hy168]; with_reducible exact H) | (have H2_ := (Option.bind_some _ _).symm.trans H; rw [hy168]; with_reducible exact H2_) | (have H2_ := (Option.bind_some _ _).symm.trans H; with_reducible exact H2_) | with_reducible exact H | (rw [hy168]; exact H) | exact H
    have Ny168 := Aside0.mk hy168; clear hy168; have H' := Aside0.mk H; clear H
    try go_wp2
    replace HO_160001 := Aside0.mk (Kd.S_drew HO_160001.out); replace BK157 := Aside0.mk (blk_drew BK157.out); replace BK158 := Aside0.mk (blk_drew BK158.out); replace BK159 := Aside0.mk (blk_drew BK159.out); replace HB := Aside0.mk (below_drew1 HB.out); have p160 := zQ (0 ≤ (x13_1 : Int)); have q160 := zQ (x13_1 < (l0_1.length : Int)); obtain ⟨ad160, A160_1, c160_1, e160, hx160_0, hx160_1, hl160_1, hi160_1⟩ := at_T76 HR0_1.out x13_1 p160 q160; have hw160_1 := hx160_1; have hw160_0 := hx160_0
    cases e160
    replace hx160_0 := zx HB hx160_0; replace hx160_1 := zx HB hx160_1; have HR160_1 := Aside0.mk hi160_1; have HC160_1 := Aside0.mk hl160_1; clear hi160_1 hl160_1; replace p160 := eq_true p160; replace q160 := eq_true q160; have p164 := zQ (0 ≤ (x13_1 : Int)); have q164 := zQ (x13_1 < (l0_1.length : Int)); obtain ⟨ad164, A164_1, c164_1, e164, hx164_0, hx164_1, hl164_1, hi164_1⟩ := at_T76 HR0_1.out x13_1 p164 q164; have hw164_1 := hx164_1; have hw164_0 := hx164_0; obtain rfl : ad160 = ad164 := (by injection e164); replace hx164_0 := zx HB hx164_0; replace hx164_1 := zx HB hx164_1; have HR164_1 := Aside0.mk hi164_1; have HC164_1 := Aside0.mk hl164_1; clear hi164_1 hl164_1
    replace p164 := eq_true p164; replace q164 := eq_true q164; have ea_ := Option.some.inj (hx160_1.symm.trans hx164_1)
    injection ea_ with ea_ en_ ec_
    subst ea_; subst ec_; clear en_
    refine start_ (n := 21) (S := fun w' => w'.cell? ⟨gb159, 0, none⟩ = some (.string a0_0) ∧ w'.cell? ⟨gb159, 1, none⟩ = some (u160001) ∧ w'.cell? ⟨gb159, 2, none⟩ = some (.string a0_2) ∧ w'.cell? ⟨gb157, 0, none⟩ = some (.string a0_0) ∧ w'.cell? ⟨gb157, 1, none⟩ = some (.slice (some ad160) l0_1.length c0_1) ∧ w'.cell? ⟨gb157, 2, none⟩ = some (.string a0_2) ∧ w'.cell? (ad160.add ((x13_1).toNat * 2)) = some (.string ((rd_T76 l0_1 x13_1).f0)) ∧ w'.cell? ⟨(ad160.add ((x13_1).toNat * 2)).block, (ad160.add ((x13_1).toNat * 2)).off + 1, none⟩ = some (.slice A160_1 ((rd_T76 l0_1 x13_1).f1).length c160_1) ∧ w'.cell? (ad160.add ((x13_1).toNat * 2)) = some (.string ((rd_T76 l0_1 x13_1).f0)) ∧ w'.cell? ⟨(ad160.add ((x13_1).toNat * 2)).block, (ad160.add ((x13_1).toNat * 2)).off + 1, none⟩ = some (.slice A160_1 ((rd_T76 l0_1 x13_1).f1).length c160_1)) (ds := [20]) (bs 21 0) (by kernel_rfl) rfl rfl ⟨(blk_cell BK159.out 0).trans rfl, (blk_cell BK159.out 1).trans rfl, (blk_cell BK159.out 2).trans rfl, (blk_cell BK157.out 0).trans rfl, (blk_cell BK157.out 1).trans rfl, (blk_cell BK157.out 2).trans rfl, (zx HB hw160_0), (zx HB hw160_1), (zx HB hw164_0), (zx HB hw164_1)⟩ (fun hHeld => ?_); refine with_tabW trystlaw10_Theirs.tab5 trystlaw10_Theirs.bits5 (fun HT_ HW_ => ?_)
    generalize wr.drew = w16 at HO_160001 BK157 BK158 BK159 HB HR160_1 HR164_1 hx160_0 hx160_1 hx164_0 hx164_1 hHeld ⊢; refine zp 0 16 (bs 21 1) ?_; refine zp 2 18 (bs 21 5) ?_; refine zp 4 20 (bs 21 21) ?_; refine zp 9 25 (bs 21 533) ?_; refine zp 11 27 (bs 21 2581) ?_; refine zt 1 17 (bs 21 2583) ?_; refine zt 3 19 (bs 21 2591) ?_; refine zp 5 21 (bs 21 2623) ?_; refine zp 6 22 (bs 21 2687) ?_; refine zt 7 23 (bs 21 2815) ?_; refine zt 10 26 (bs 21 3839) ?_; refine zp 12 28 (bs 21 7935) ?_; refine zp 13 29 (bs 21 16127) ?_; refine zt 14 30 (bs 21 32511) ?_; refine one_ (i := 8) (N := some 24) (bs 21 32767) rfl rfl (one_of HT_.out (by kernel_rfl)) (by decide) (fun K hK => ?_)
    refine Kd.R_lit_step Kd.string _ 9 ?hg (N := 24) ?hd (xs := ([] : List ByteArray)) (inner := []) (ok := fun _ => True) (okp := fun _ => True) ?hr ?hp (fun _ hk => hk) trivial (Below.refl _ _) (Nat.le_refl _) (by simp) ?_; (case hd => rfl); (case hg => rfl); (case hr => first | (go_simp; done) | (go_simp; rfl)); (case hp => exact (Reps.none _ _)); intro v162 w17 ho18 hb hg_ hnew_; clear hg_ hnew_
    (first | rw [← Ny161.out] at ho18 | (simp only [Int.reduceToNat] at ho18; rw [← Ny161.out] at ho18))
    replace HO_160001 := Aside0.mk (Kd.S_elder' (Kd.S_below HO_160001.out zX) (Kd.R_base ho18) hb); replace HO163 := Aside0.mk (Kd.R_lower ho18 (below_size zB)); replace BK157 := zb BK157 hb; replace BK158 := zb BK158 hb; replace BK159 := zb BK159 hb; replace HB := zw hb; clear hb ho18
    refine hK.out _ _ ⟨(blk_cell BK159.out 0).trans rfl, (blk_cell BK159.out 1).trans rfl, (blk_cell BK159.out 2).trans rfl, (blk_cell BK157.out 0).trans rfl, (blk_cell BK157.out 1).trans rfl, (blk_cell BK157.out 2).trans rfl, (zx HB hw160_0), (zx HB hw160_1), (zx HB hw164_0), (zx HB hw164_1)⟩ (fun hHeld => ?_); clear hK K; refine zr ?_; refine one_ (i := 15) (N := some 31) (bs 21 65535) rfl rfl (one_of HT_.out (by kernel_rfl)) (by decide) (fun K hK => ?_)
    refine Kd.R_append_rows_step Kd.string (w0 := w) w.heap.size (by rfl) (.tmp 24) (.tmp 30) 54 9 (.string ⟨#[]⟩) 16 rfl Tryz.underlying54 info9 rfl (by decide) (by omega) v162 y161 ((rd_T76 l0_1 x13_1).f1) _ _ _ (fun _ => True) (fun _ => False) rfl rfl ?aO ?aR (fun _ _ h => h) (fun _ h => h.elim) ?aF ?aB ?aS ?aL ?_
    (case aR => repeat (first | exact (Kd.C_below HR164_1.out HB.out) | (with_reducible refine Kd.C_alloc ?_ _) | (with_reducible refine Kd.C_drewN ?_ _) | (with_reducible refine Kd.C_drew ?_)))
    (case aB => exact zB)
    (case aF => exact (fun _ _ => trivial))
    (case aO => exact (Kd.R_below HO163.out zX))
    (case aS => exact (below_size zB))
    (case aL => have := LMc14.out; omega)
    intro v166 w19 ho hb hg hat; rw [← Ny165.out] at ho; have n0_ := Aside0.mk (Kd.S_after (ok := (fun _ => True)) (Kd.S_below HO_160001.out zX) hg hat); have n1_ := Aside0.mk (blk_grown (g := gb157) (o := .cells #[.string a0_0, .slice (some ad160) l0_1.length c0_1, .string a0_2] 53 (0, 0)) (blk_below BK157.out zX) hg (Kd.R_ne HO163.out BK157.out (by decide))); have n2_ := Aside0.mk (blk_grown (g := gb158) (o := .cells #[.string (⟨#[]⟩ : ByteArray), .slice none 0 0, .string (⟨#[]⟩ : ByteArray)] 49 (0, 0)) (blk_below BK158.out zX) hg (Kd.R_ne HO163.out BK158.out (by decide))); have n3_ := Aside0.mk (blk_grown (g := gb159) (o := .cells #[.string a0_0, u160001, .string a0_2] 49 (0, 0)) (blk_below BK159.out zX) hg (Kd.R_ne HO163.out BK159.out (by decide))); have n4_ := Aside0.mk (hb); have n5_ := Aside0.mk (ho); clear HO_160001; clear BK157; clear BK158; clear BK159; clear HB; clear HO163
    have HO_160001 := n0_; have BK157 := n1_; have BK158 := n2_; have BK159 := n3_; have HB := n4_; have HO167 := n5_; clear n0_ n1_ n2_ n3_ n4_ n5_; clear ho hb hg hat; obtain ⟨Ao20, co20, eo20⟩ := Kd.R_slice HO167.out
    (first | subst eo20 | (injection eo20 with f1_ f2_ f3_; have f4_ := f1_.symm; have f5_ := f3_.symm; clear f1_ f2_ f3_; subst f4_; subst f5_))
    refine hK.out _ _ ⟨(blk_cell BK159.out 0).trans rfl, (blk_cell BK159.out 1).trans rfl, (blk_cell BK159.out 2).trans rfl, (blk_cell BK157.out 0).trans rfl, (blk_cell BK157.out 1).trans rfl, (blk_cell BK157.out 2).trans rfl, (zx HB hw160_0), (zx HB hw160_1), (zx HB hw164_0), (zx HB hw164_1)⟩ (fun hHeld => ?_); clear hK K; refine zr ?_; refine zp 16 32 (bs 21 131071) ?_; refine one_ (i := 17) (N := some 33) (bs 21 262143) rfl rfl (one_of HT_.out (by kernel_rfl)) (by decide) (fun K hK => ?_); refine value_ (w1 := ?_) (v := ?_) (by rfl) rfl ?_ ?_; rotate_left 2
    ·go_simp
     constructor
     ·rfl
     ·rfl
    refine hK.out _ _ ⟨(blk_cell (blk_alloc BK159.out _) 0).trans rfl, (blk_cell (blk_alloc BK159.out _) 1).trans rfl, (blk_cell (blk_alloc BK159.out _) 2).trans rfl, (blk_cell (blk_alloc BK157.out _) 0).trans rfl, (blk_cell (blk_alloc BK157.out _) 1).trans rfl, (blk_cell (blk_alloc BK157.out _) 2).trans rfl, (World.cell?_alloc_lt _ _ _ (World.block_lt_of_cell? _ _ ((zx HB hw160_0)))).trans ((zx HB hw160_0)), (World.cell?_alloc_lt _ _ _ (World.block_lt_of_cell? _ _ ((zx HB hw160_1)))).trans ((zx HB hw160_1)), (World.cell?_alloc_lt _ _ _ (World.block_lt_of_cell? _ _ ((zx HB hw164_0)))).trans ((zx HB hw164_0)), (World.cell?_alloc_lt _ _ _ (World.block_lt_of_cell? _ _ ((zx HB hw164_1)))).trans ((zx HB hw164_1))⟩ (fun hHeld => ?_)
    clear hK K; refine zr ?_; refine one_ (i := 18) (N := some 34) (bs 21 524287) rfl rfl (one_of HT_.out (by kernel_rfl)) (by decide) (fun K hK => ?_); refine Kd.S_append_step k77 (w0 := w) w.heap.size (by rfl) (.tmp 17) (.tmp 33) 47 77 (.agg #[(.string ⟨#[]⟩), (.slice none 0 0)]) 40 rfl Tryz.underlying47 info77 rfl (by decide) (by omega) u160001 x160001_1 (⟨(rd_T76 l0_1 x13_1).f0, y165⟩ : S77) [.string ((rd_T76 l0_1 x13_1).f0), .slice Ao20 y165.length co20] (fun _ => True) (fun k_ => some k_ = (.slice Ao20 y165.length co20 : Value).ownBlock) rfl rfl ?aP (fun k_ hk_ => ((Kd.R_mono (ok' := fun k_ => ((fun _ => True)) k_ ∧ some k_ ≠ (u160001 : Value).ownBlock) (Kd.R_apart' (HO167.out) (Kd.S_typed HO_160001.out) (by decide)) (fun k_ hk => ⟨trivial, hk.2⟩))).1 k_ hk_.symm) ?aF ?aO ?aB ?aS ?aL ?_
    (case aP => exact k77_mkM _ _ _ (⟨(rd_T76 l0_1 x13_1).f0, y165⟩ : S77) (Kd.R_mono (Kd.R_tight rfl (Kd.R_mono (ok' := fun k_ => ((fun _ => True)) k_ ∧ some k_ ≠ (u160001 : Value).ownBlock) (Kd.R_apart' (HO167.out) (Kd.S_typed HO_160001.out) (by decide)) (fun k_ hk => ⟨trivial, hk.2⟩))) (fun _ h_ => h_)))
    (case aB => exact zB)
    (case aF => exact (fun _ _ => trivial))
    (case aO => exact (by (with_reducible repeat (first | apply Kd.S_alloc | apply Kd.S_drewN | apply Kd.S_drew)); exact Kd.S_mono HO_160001.out (fun k_ hk => ⟨trivial, fun e_ => hk.2 e_⟩)))
    (case aS => exact (below_size zB))
    (case aL => have := LMc15.out; omega)
    intro v169 w21 ho hb hg hat; rw [← Ny168.out] at ho; have n0_ := Aside0.mk (blk_grown (g := gb157) (o := .cells #[.string a0_0, .slice (some ad160) l0_1.length c0_1, .string a0_2] 53 (0, 0)) (blk_below BK157.out zX) hg (Kd.S_ne HO_160001.out BK157.out (by decide))); have n1_ := Aside0.mk (blk_grown (g := gb158) (o := .cells #[.string (⟨#[]⟩ : ByteArray), .slice none 0 0, .string (⟨#[]⟩ : ByteArray)] 49 (0, 0)) (blk_below BK158.out zX) hg (Kd.S_ne HO_160001.out BK158.out (by decide))); have n2_ := Aside0.mk (blk_grown (g := gb159) (o := .cells #[.string a0_0, u160001, .string a0_2] 49 (0, 0)) (blk_below BK159.out zX) hg (Kd.S_ne HO_160001.out BK159.out (by decide))); have n3_ := Aside0.mk (hb); have n4_ := Aside0.mk (ho); clear BK157; clear BK158; clear BK159; clear HB; clear HO_160001; clear HO167; have BK157 := n0_; have BK158 := n1_; have BK159 := n2_; have HB := n3_
    have HO170 := n4_; clear n0_ n1_ n2_ n3_ n4_; clear ho hb hg hat; obtain ⟨Ao22, co22, eo22⟩ := Kd.S_slice HO170.out
    (first | subst eo22 | (injection eo22 with f1_ f2_ f3_; have f4_ := f1_.symm; have f5_ := f3_.symm; clear f1_ f2_ f3_; subst f4_; subst f5_))
    refine hK.out _ _ ⟨(blk_cell BK159.out 0).trans rfl, (blk_cell BK159.out 1).trans rfl, (blk_cell BK159.out 2).trans rfl, (blk_cell BK157.out 0).trans rfl, (blk_cell BK157.out 1).trans rfl, (blk_cell BK157.out 2).trans rfl, (zx HB hw160_0), (zx HB hw160_1), (zx HB hw164_0), (zx HB hw164_1)⟩ (fun hHeld => ?_); clear hK K; refine zr ?_; refine zp 19 35 (bs 21 1048575) ?_; refine last_ (i := 20) (N := none) (bs 21 2097151) rfl rfl (one_of HT_.out (by kernel_rfl)) (by decide) (fun K hK => ?_); have hs23 : w21.cell? ⟨gb159, 1, none⟩ = some (u160001) := (blk_cell BK159.out 1).trans rfl; have hfs23 := zf BK159 1; have hns23_0 := NB157_159.out; have hns23_1 := NB158_159.out
    have hms23_0 := NB159_157.out; have hms23_1 := NB159_158.out; refine skip_ (w1 := ?_) (by rfl) rfl ?_ ?_; rotate_left
    ·go_simp; rfl
    refine hK.out _ _ ?_; clear hK K; refine done_ (done_of HT_.out (by kernel_rfl)) ?_
    try go_wp2
    go_roundg k1
    case measure => have := HK1.out; omega
    case rel => exact ⟨(wrap64 (x13_1 + 1)), (y168), (.slice Ao22 y168.length co22), zS, H', ⟨by have := HK1.out; omega⟩, ⟨by (with_reducible repeat (first | apply Kd.S_alloc | apply Kd.S_drewN | apply Kd.S_drew)); exact Kd.S_mono (Kd.S_far (p := ⟨gb159, 1, none⟩) (Kd.S_types HO170.out BK159.out (by decide)) (fun _ hk => hk.2) (.slice Ao22 y168.length co22)) (fun _ hk => trivial)⟩, ⟨by (with_reducible repeat (first | refine blk_drewN ?_ _ | refine blk_drew ?_ | refine blk_alloc ?_ _)); refine blk_far ?_ NB157_159.out _; (with_reducible repeat (first | refine blk_drewN ?_ _ | refine blk_drew ?_ | refine blk_alloc ?_ _)); exact BK157.out⟩, ⟨by (with_reducible repeat (first | refine blk_drewN ?_ _ | refine blk_drew ?_ | refine blk_alloc ?_ _)); refine blk_far ?_ NB158_159.out _; (with_reducible repeat (first | refine blk_drewN ?_ _ | refine blk_drew ?_ | refine blk_alloc ?_ _)); exact BK158.out⟩, ⟨by (with_reducible repeat (first | refine blk_drewN ?_ _ | refine blk_drew ?_ | refine blk_alloc ?_ _)); refine blk_put (cs := #[.string a0_0, u160001, .string a0_2]) ?_ 1 _ rfl; (with_reducible repeat (first | refine blk_drewN ?_ _ | refine blk_drew ?_ | refine blk_alloc ?_ _)); exact BK159.out⟩, ⟨zB⟩⟩
   ·simp only [Option.some.injEq, Prod.mk.injEq] at H; obtain ⟨rfl, rfl, rfl⟩ := H; have hnb24 := NB159_157.out; have hnc24 := NB157_159.out; have hnb25 := NB159_158.out; have hnc25 := NB158_159.out; have hcz26_0 := zc0 BK159; have hcz26_1 := zc1 BK159; have hcz26_2 := zc2 BK159; have hfz26_0 := zf BK159 0; have hfz26_1 := zf BK159 1; have hfz26_2 := zf BK159 2; have hnb27 := NB158_157.out; have hnc27 := NB157_158.out; have hcz28_0 := zc0 BK158; have hcz28_1 := zc1 BK158
    have hcz28_2 := zc2 BK158; have hfz28_0 := zf BK158 0; have hfz28_1 := zf BK158 1; have hfz28_2 := zf BK158 2; obtain ⟨Ao29, co29, eo29⟩ := Kd.S_slice HO_160001.out; subst eo29; go_wp2
    refine bodyPost_ret (results_cell_row rfl _ _ gb158 49 #[.string a0_0, .slice Ao29 x160001_1.length co29, .string a0_2] (0, 0) _ rfl (by (with_reducible repeat (first | refine blk_drewN ?_ _ | refine blk_drew ?_ | refine blk_alloc ?_ _)); refine blk_put (cs := #[.string a0_0, .slice Ao29 x160001_1.length co29, .string (⟨#[]⟩ : ByteArray)]) ?_ 2 _ rfl; (with_reducible repeat (first | refine blk_drewN ?_ _ | refine blk_drew ?_ | refine blk_alloc ?_ _)); refine blk_put (cs := #[.string a0_0, .slice none 0 0, .string (⟨#[]⟩ : ByteArray)]) ?_ 1 _ rfl; (with_reducible repeat (first | refine blk_drewN ?_ _ | refine blk_drew ?_ | refine blk_alloc ?_ _)); refine blk_put (cs := #[.string (⟨#[]⟩ : ByteArray), .slice none 0 0, .string (⟨#[]⟩ : ByteArray)]) ?_ 0 _ rfl; (with_reducible repeat (first | refine blk_drewN ?_ _ | refine blk_drew ?_ | refine blk_alloc ?_ _)); exact BK158.out) Tryz.underlying49 rfl (by kernel_rfl)) rfl ?_
    exact ⟨_, zE, by (with_reducible repeat (first | apply Kd.S_alloc | apply Kd.S_drewN | apply Kd.S_drew)); exact Kd.S_mono (Kd.S_far (p := ⟨gb158, 2, none⟩) (Kd.S_far (p := ⟨gb158, 1, none⟩) (Kd.S_far (p := ⟨gb158, 0, none⟩) (Kd.S_types HO_160001.out BK158.out (by decide)) (fun _ hk => hk.2) (.string a0_0)) (fun _ hk => hk.2) (.slice Ao29 x160001_1.length co29)) (fun _ hk => hk.2) (.string a0_2)) (fun _ hk => trivial), zB⟩
end Go.Proofs.YtdojmdbaiddkgaaGreatDoor.Print
end
section
set_option linter.unusedVariables false
set_option linter.unusedSimpArgs false
set_option linter.unusedSectionVars false
namespace Go.Proofs.YtdojmdbaiddkgaaGreatDoor.Pure
open Go.RowKit Go.Proofs.YtdojmdbaiddkgaaGreatDoor.Print Go.Proofs.YtdojmdbaiddkgaaGreatDoorW.PrintWords Go.Proofs.YtdojmdbaiddkgaaGreatDoorW.PrintLast
abbrev RP := S76
abbrev LP := S77
def toP (x : RP) : LP := ⟨x.f0, x.f1⟩
theorem wrapS (i n : Nat) (h : i < n) (hn : n ≤ 9000000000000000000) : wrap64 ((i : Int) + 1) = ((i + 1 : Nat) : Int) := by unfold wrap64; omega
theorem rdR (l : List RP) (i : Nat) (h : i < l.length) : rd_T76 l (i : Int) = l[i] := by
  unfold rd_T76
  rw [Int.toNat_natCast, List.getD_eq_getElem?_getD, List.getElem?_eq_getElem h]; rfl
theorem few1_ev (nm v : ByteArray) (l : List RP) (i : Nat) (hi : i < l.length) (hl : l.length ≤ 9000000000000000000) (hv : l[i].f1.length ≤ 9000000000000000000)
    (next : ∀ x3 : Int, ∃ b, Ev (fun k => trystlaw10_Few.l0 k x3 (l.length : Int) ((i + 1 : Nat) : Int) nm l v) b) :
    ∀ (d j : Nat) (x3 : Int), j + d = l[i].f1.length → ∃ b, Ev (fun k => trystlaw10_Few.l1 k x3 (i : Int) (l.length : Int) (i : Int) (l[i].f1.length : Int) (j : Int) nm l v) b := by
  intro d
  induction d with
  | zero =>
    intro j x3 hj
    by_cases h5 : x3 > 5000
    · exact ⟨false, Ev.step (f := fun _ => some false) (fun k => by simp only [trystlaw10_Few.l1]; rw [if_neg (by omega), if_pos h5]) (Ev.now _)⟩
    · obtain ⟨b, hb⟩ := next x3
      exact ⟨b, Ev.step (fun k => by simp only [trystlaw10_Few.l1]; rw [if_neg (by omega), if_neg h5, wrapS i _ hi hl]) hb⟩
  | succ d ih =>
    intro j x3 hj
    obtain ⟨b, hb⟩ := ih (j + 1) (wrap64 ((wrap64 (x3 + ((rdOf ByteArray.empty (l[i].f1) (j : Int)).size : Int))) + 1)) (by omega)
    exact ⟨b, Ev.step (fun k => by simp only [trystlaw10_Few.l1]; rw [if_pos (by omega), if_pos (by omega), if_pos (by omega), if_pos (by omega), rdR l i hi, if_pos (by omega), wrapS j _ (by omega) hv]) hb⟩
theorem few_ev (nm v : ByteArray) (l : List RP) (hl : l.length ≤ 9000000000000000000) (hv : ∀ x ∈ l, x.f1.length ≤ 9000000000000000000) :
    ∀ (d i : Nat) (x3 : Int), i + d = l.length → ∃ b, Ev (fun k => trystlaw10_Few.l0 k x3 (l.length : Int) (i : Int) nm l v) b := by
  intro d
  induction d with
  | zero =>
    intro i x3 hi
    exact ⟨_, Ev.step (f := fun _ => some (decide (x3 ≤ 5000))) (fun k => by simp only [trystlaw10_Few.l0]; rw [if_neg (by omega)]) (Ev.now _)⟩
  | succ d ih =>
    intro i x3 hi
    have hil : i < l.length := by omega
    obtain ⟨b, hb⟩ := few1_ev nm v l i hil hl (hv _ (List.getElem_mem hil)) (fun x => ih (i + 1) x (by omega)) l[i].f1.length 0 (wrap64 ((wrap64 (x3 + (l[i].f0.size : Int))) + 1)) (by omega)
    exact ⟨b, Ev.step (fun k => by simp only [trystlaw10_Few.l0]; rw [if_pos (by omega), if_pos (by omega), if_pos (by omega), rdR l i hil]; rfl) hb⟩
theorem theirs_ev (nm v : ByteArray) (l : List RP) (hl : l.length < 3518437208883) (hv : ∀ x ∈ l, x.f1.length < 8796093022208) :
    ∀ (d i : Nat) (acc : List LP), i + d = l.length → acc.length = i → Ev (fun k => trystlaw10_Theirs.l0 k (l.length : Int) (i : Int) nm l v nm acc v) (nm, acc ++ (l.drop i).map toP, v) := by
  intro d
  induction d with
  | zero =>
    intro i acc hi ha
    rw [List.drop_eq_nil_of_le (by omega), List.map_nil, List.append_nil]
    exact Ev.step (f := fun _ => some (nm, acc, v)) (fun k => by simp only [trystlaw10_Theirs.l0]; rw [if_neg (by omega)]) (Ev.now _)
  | succ d ih =>
    intro i acc hi ha
    have hil : i < l.length := by omega
    have h1 := hv _ (List.getElem_mem hil)
    have := ih (i + 1) (acc ++ [toP l[i]]) (by omega) (by simp [ha])
    rw [List.drop_eq_getElem_cons hil, List.map_cons, List.append_cons]
    refine Ev.step (fun k => ?_) this
    simp only [trystlaw10_Theirs.l0]
    rw [if_pos (by omega), if_pos (by omega), if_pos (by omega), Option.bind_some, rdR l i hil, if_pos (by simpa using h1), if_pos (by omega), wrapS i _ hil (by omega), List.nil_append]
    rfl
theorem theirs (nm v : ByteArray) (l : List RP) (hl : l.length < 3518437208883) (hv : ∀ x ∈ l, x.f1.length < 8796093022208) : Ev (fun k => trystlaw10_Theirs.f k nm l v) (nm, l.map toP, v) := by
  have := theirs_ev nm v l hl hv l.length 0 [] (by omega) rfl
  rw [List.nil_append, List.drop_zero] at this
  exact this
theorem toList_ba {a b : ByteArray} : a.toList = b.toList ↔ a = b := ⟨ba_toList, fun h => by rw [h]⟩
theorem rdS (l : List ByteArray) (i : Nat) (h : i < l.length) : rdOf ByteArray.empty l (i : Int) = l[i] := by
  unfold rdOf
  rw [Int.toNat_natCast, List.getD_eq_getElem?_getD, List.getElem?_eq_getElem h]; rfl
end Go.Proofs.YtdojmdbaiddkgaaGreatDoor.Pure
end
section
namespace Go.Proofs.YtdojmdbaiddkgaaGreatDoor.Print
open Go.RowKit Go.Proofs.YtdojmdbaiddkgaaGreatDoorW.PrintWords Go.Proofs.YtdojmdbaiddkgaaGreatDoorW.PrintLast
set_option linter.unusedVariables false
set_option linter.unusedSimpArgs false
mutual
def trystlaw11_Theirs.l0 : Nat → Int → Int → ByteArray → List (S53) → List (S25) → ByteArray → List (S49) → Option (ByteArray × (List (S49)) × (List (S31)))
 | 0, _, _, _, _, _, _, _ => none
 | k + 1, x11, x12, x172000, x172001, x172002, x174000, x174001 => if x12 < x11 then (if 0 ≤ x12 then (if x12 < (x172001.length : Int) then ((trystlaw10_Theirs.f k ((rd_T53 x172001 x12).f0) ((rd_T53 x172001 x12).f1) ((rd_T53 x172001 x12).f2)).bind fun bt175 => (if x174001.length < 2513169434916 then (trystlaw11_Theirs.l0 k x11 (wrap64 (x12 + 1)) x172000 x172001 x172002 x174000 (x174001 ++ [(⟨bt175.1, bt175.2.1, bt175.2.2⟩ : S49)])) else (none))) else (none)) else (none)) else (trystlaw11_Theirs.l1 k (x172002.length : Int) 0 x172000 x172001 x172002 x174000 x174001 ([] : List (S31)))
def trystlaw11_Theirs.l1 : Nat → Int → Int → ByteArray → List (S53) → List (S25) → ByteArray → List (S49) → List (S31) → Option (ByteArray × (List (S49)) × (List (S31)))
 | 0, _, _, _, _, _, _, _, _ => none
 | k + 1, x29, x30, x172000, x172001, x172002, x174000, x174001, x174002 => if x30 < x29 then (if 0 ≤ x30 then (if x30 < (x172002.length : Int) then ((trystlaw11_Theirs.f k ((rd_T25 x172002 x30).f0) ((rd_T25 x172002 x30).f1) ((rd_T25 x172002 x30).f2)).bind fun bt184 => (if x174002.length < 2199023255552 then (trystlaw11_Theirs.l1 k x29 (wrap64 (x30 + 1)) x172000 x172001 x172002 x174000 x174001 (x174002 ++ [(⟨bt184.1, bt184.2.1, bt184.2.2⟩ : S31)])) else (none))) else (none)) else (none)) else (some (x174000, x174001, x174002))
def trystlaw11_Theirs.f : Nat → ByteArray → List (S53) → List (S25) → Option (ByteArray × (List (S49)) × (List (S31)))
 | 0, _, _, _ => none
 | k + 1, a0_0, l0_1, l0_2 => trystlaw11_Theirs.l0 k (l0_1.length : Int) 0 a0_0 l0_1 l0_2 a0_0 ([] : List (S49))
end
def trystlaw11_Theirs.T5 : Bool × List (List Nat × List Nat) := (true, [([], []), ([0], [0]), ([], []), ([2], [2]), ([], []), ([3, 4], [3, 4]), ([5], [5]), ([6], [6]), ([7], [7]), ([1, 8, 7], [1, 8]), ([0, 1, 2, 3, 4, 5, 6, 7, 8, 9], []), ([10, 9, 9, 0, 1, 2, 3, 4, 5, 6, 7, 8, 9], [9, 10])])
def trystlaw11_Theirs.B5 : List Nat := [0, 1, 0, 4, 0, 28, 60, 124, 252, 511, 1023, 2047]
theorem trystlaw11_Theirs.tab5 : rtab .any (opsOf Tryz.f8 5) = trystlaw11_Theirs.T5 := by kernel_rfl
theorem trystlaw11_Theirs.bits5 : waitsOk trystlaw11_Theirs.T5.2 trystlaw11_Theirs.B5 = true := by kernel_rfl
def trystlaw11_Theirs.T10 : Bool × List (List Nat × List Nat) := (true, [([], []), ([0], [0]), ([], []), ([2], [2]), ([], []), ([3, 4], [3, 4]), ([5], [5]), ([6], [6]), ([7], [7]), ([1, 8, 7], [1, 8]), ([0, 1, 2, 3, 4, 5, 6, 7, 8, 9], []), ([10, 9, 9, 0, 1, 2, 3, 4, 5, 6, 7, 8, 9], [9, 10])])
def trystlaw11_Theirs.B10 : List Nat := [0, 1, 0, 4, 0, 28, 60, 124, 252, 511, 1023, 2047]
theorem trystlaw11_Theirs.tab10 : rtab .any (opsOf Tryz.f8 10) = trystlaw11_Theirs.T10 := by kernel_rfl
theorem trystlaw11_Theirs.bits10 : waitsOk trystlaw11_Theirs.T10.2 trystlaw11_Theirs.B10 = true := by kernel_rfl
set_option maxHeartbeats 8000000 in
set_option maxRecDepth 100000 in
theorem trystlaw11_Theirs.calls (k : Nat) : ∀ (a0_0 : ByteArray) (A0_1 : Option Addr) (c0_1 : Nat) (l0_1 : List (S53)) (A0_2 : Option Addr) (c0_2 : Nat) (l0_2 : List (S25)) (r1 : ByteArray) (r2 : List (S49)) (r3 : List (S31)) (w : World) (hG : GG w) (hr0_1 : Kd.C k53 w A0_1 l0_1.length l0_1) (hc0_1 : l0_1.length ≤ c0_1) (hr0_2 : Kd.C k25 w A0_2 l0_2.length l0_2) (hc0_2 : l0_2.length ≤ c0_2) (h : trystlaw11_Theirs.f k a0_0 l0_1 l0_2 = some (r1, r2, r3)),
  Calls Tryz.prog 8 #[.agg #[.string a0_0, .slice A0_1 l0_1.length c0_1, .slice A0_2 l0_2.length c0_2]] w fun e w' => ∃ v1_ v2_ : Value, e = .returned (.agg #[.string r1, v1_, v2_]) ∧ Kd.R k49 49 w' w.heap.size (fun _ => True) v1_ r2 ∧ Kd.R k31 31 w' w.heap.size (fun k_ => some k_ ≠ (v1_ : Value).ownBlock) v2_ r3 ∧ Below w.heap.size w w' := by
 induction k using Nat.strongRecOn with
 | _ k ih =>
 intro a0_0 A0_1 c0_1 l0_1 A0_2 c0_2 l0_2 r1 r2 r3 w hG hr0_1 hc0_1 hr0_2 hc0_2 h
 cases k with
 | zero => exact absurd h (by simp [trystlaw11_Theirs.f])
 | succ k =>
 simp only [trystlaw11_Theirs.f] at h; have hu25 := Tryz.underlying25; have hu31 := Tryz.underlying31; have hu53 := Tryz.underlying53; have HR0_1 := Aside0.mk hr0_1; have HC0_1 := Aside0.mk hc0_1; clear hr0_1 hc0_1; have HR0_2 := Aside0.mk hr0_2; have HC0_2 := Aside0.mk hc0_2; clear hr0_2 hc0_2; have HB := Aside0.mk (Below.refl w.heap.size w); have H : (trystlaw11_Theirs.l0 k (l0_1.length : Int) 0 a0_0 l0_1 l0_2 a0_0 ([] : List (S49))) = some (r1, r2, r3) := h; clear h; have H' := Aside0.mk H; clear H
 go_enter Tryz.func8, Tryz.ntmps8
 go_wp2_with (first | ((with_reducible refine gate_dst (N := 1) rfl ?_); refine zbox (N := 1) #[.string a0_0, .slice A0_1 l0_1.length c0_1, .slice A0_2 l0_2.length c0_2] 25 (fun gb171 hg w2 hbox hb => ?_); have n0_ := zw hb; have n1_ := Aside0.mk hbox; have n2_ := zg w hg; have n3_ := zg w hg; clear HB; have HB := n0_; have BK171 := n1_; have GW171 := n2_; have GE171 := n3_; clear n0_ n1_ n2_ n3_; clear hb hbox hg) | ((with_reducible refine gate_dst (N := 2) rfl ?_); refine zbox (N := 2) #[.string (⟨#[]⟩ : ByteArray), .slice none 0 0, .slice none 0 0] 31 (fun gb172 hg w3 hbox hb => ?_); replace BK172 := Aside0.mk hbox; replace GW172 := zg w hg; replace GE172 := zg w hg; replace HB := zw hb; replace NB171_172 := zn BK171 hg; replace NB172_171 := zm BK171 hg; replace BK171 := zb BK171 hb; clear hb hbox hg; have hnb4 := NB171_172.out; have hnc4 := NB172_171.out; have hcz5_0 := zc0 BK171; have hcz5_1 := zc1 BK171; have hcz5_2 := zc2 BK171; have hfz5_0 := zf BK171 0; have hfz5_1 := zf BK171 1; have hfz5_2 := zf BK171 2) | ((with_reducible refine gate_dst (N := 3) rfl ?_); refine zbox (N := 3) #[.string (⟨#[]⟩ : ByteArray), .slice none 0 0, .slice none 0 0] 31 (fun gb173 hg w6 hbox hb => ?_); replace BK173 := Aside0.mk hbox; replace GW173 := zg w hg; replace GE173 := zg w hg; replace HB := zw hb; replace NB171_173 := zn BK171 hg; replace NB173_171 := zm BK171 hg; replace BK171 := zb BK171 hb; replace NB172_173 := zn BK172 hg; replace NB173_172 := zm BK172 hg; replace BK172 := zb BK172 hb; clear hb hbox hg; have hnb7 := NB173_171.out; have hnc7 := NB171_173.out; have hnb8 := NB173_172.out; have hnc8 := NB172_173.out; have hcz9_0 := zc0 BK173; have hcz9_1 := zc1 BK173; have hcz9_2 := zc2 BK173; have hfz9_0 := zf BK173 0; have hfz9_1 := zf BK173 1; have hfz9_2 := zf BK173 2; have hcz10_0 := zc0 BK171; have hcz10_1 := zc1 BK171; have hcz10_2 := zc2 BK171; have hfz10_0 := zf BK171 0; have hfz10_1 := zf BK171 1; have hfz10_2 := zf BK171 2))
 go_loopg [12] k (fun kq v12 w' => ∃ (x12_1 : Int) (x174001_1 : List (S49)) (u174001 : Value), v12 = .int .i64 x12_1 ∧ Aside0 (trystlaw11_Theirs.l0 kq (l0_1.length : Int) x12_1 a0_0 l0_1 l0_2 a0_0 x174001_1 = some (r1, r2, r3)) ∧ Aside0 (kq ≤ k) ∧ Aside0 (Kd.R k49 49 w' w.heap.size (fun _ => True) u174001 x174001_1) ∧ Aside0 (w'.heap[gb171]? = some (.cells #[.string a0_0, (.slice A0_1 l0_1.length c0_1), (.slice A0_2 l0_2.length c0_2)] 25 (0, 0))) ∧ Aside0 (w'.heap[gb172]? = some (.cells #[.string (⟨#[]⟩ : ByteArray), (.slice none 0 0), (.slice none 0 0)] 31 (0, 0))) ∧ Aside0 (w'.heap[gb173]? = some (.cells #[.string a0_0, u174001, (.slice none 0 0)] 31 (0, 0))) ∧ Aside0 (Below w.heap.size w w'))
 case atStart => exact ⟨(0), (([] : List (S49))), (.slice none 0 0), zS, H', ⟨Nat.le_refl _⟩, ⟨by first | exact Kd.R_nil _ _ _ _ _ | exact Kd.N_nil _ _ _ _ _ | exact Kd.V_nil _ _ _ _ _ | exact Kd.Q_nil _ _ _ _ _ | exact Kd.S_nil _ _ _ _ _⟩, ⟨by (with_reducible repeat (first | refine blk_drewN ?_ _ | refine blk_drew ?_ | refine blk_alloc ?_ _)); refine blk_far ?_ NB171_173.out _; (with_reducible repeat (first | refine blk_drewN ?_ _ | refine blk_drew ?_ | refine blk_alloc ?_ _)); refine blk_far ?_ NB171_173.out _; (with_reducible repeat (first | refine blk_drewN ?_ _ | refine blk_drew ?_ | refine blk_alloc ?_ _)); refine blk_far ?_ NB171_173.out _; (with_reducible repeat (first | refine blk_drewN ?_ _ | refine blk_drew ?_ | refine blk_alloc ?_ _)); exact BK171.out⟩, ⟨by (with_reducible repeat (first | refine blk_drewN ?_ _ | refine blk_drew ?_ | refine blk_alloc ?_ _)); refine blk_far ?_ NB172_173.out _; (with_reducible repeat (first | refine blk_drewN ?_ _ | refine blk_drew ?_ | refine blk_alloc ?_ _)); refine blk_far ?_ NB172_173.out _; (with_reducible repeat (first | refine blk_drewN ?_ _ | refine blk_drew ?_ | refine blk_alloc ?_ _)); refine blk_far ?_ NB172_173.out _; (with_reducible repeat (first | refine blk_drewN ?_ _ | refine blk_drew ?_ | refine blk_alloc ?_ _)); exact BK172.out⟩, ⟨by (with_reducible repeat (first | refine blk_drewN ?_ _ | refine blk_drew ?_ | refine blk_alloc ?_ _)); refine blk_put (cs := #[.string a0_0, .slice none 0 0, .slice none 0 0]) ?_ 2 _ rfl; (with_reducible repeat (first | refine blk_drewN ?_ _ | refine blk_drew ?_ | refine blk_alloc ?_ _)); refine blk_put (cs := #[.string a0_0, .slice none 0 0, .slice none 0 0]) ?_ 1 _ rfl; (with_reducible repeat (first | refine blk_drewN ?_ _ | refine blk_drew ?_ | refine blk_alloc ?_ _)); refine blk_put (cs := #[.string (⟨#[]⟩ : ByteArray), .slice none 0 0, .slice none 0 0]) ?_ 0 _ rfl; (with_reducible repeat (first | refine blk_drewN ?_ _ | refine blk_drew ?_ | refine blk_alloc ?_ _)); exact BK173.out⟩, ⟨zB⟩⟩
 case round =>
  clear H'; clear hcz10_0 hcz10_1 hcz10_2 hcz5_0 hcz5_1 hcz5_2 hcz9_0 hcz9_1 hcz9_2 hfz10_0 hfz10_1 hfz10_2 hfz5_0 hfz5_1 hfz5_2 hfz9_0 hfz9_1 hfz9_2; obtain ⟨x12_1, x174001_1, u174001, rfl, HA, HK1, HO_174001, BK171, BK172, BK173, HB⟩ := hrel
  cases gk with
  | zero => exact absurd HA.out (by simp [trystlaw11_Theirs.l0])
  | succ k1 =>
   have H := HA.out; clear HA; simp only [trystlaw11_Theirs.l0] at H; replace H := zId H; rcases H with ⟨-, c11b0, H⟩ | ⟨-, c11b0, H⟩
   ·replace H := zJd H; obtain ⟨-, c12b0, H⟩ := H; replace H := zJd H; obtain ⟨-, c13b0, H⟩ := H; replace H := Option.bind_eq_some_iff.mp H; obtain ⟨⟨t175, t176, t179⟩, A140, H⟩ := H; replace H : (if x174001_1.length < 2513169434916 then (trystlaw11_Theirs.l0 k1 (l0_1.length : Int) (wrap64 (x12_1 + 1)) a0_0 l0_1 l0_2 a0_0 (x174001_1 ++ [(⟨t175, t176, t179⟩ : S49)])) else (none)) = some (r1, r2, r3) := H; have A14 := Aside0.mk A140; clear A140; replace H := zJ H; obtain ⟨c15, H⟩ := H; have LMc15 := Aside0.mk c15; clear c15; obtain ⟨y180, hy180⟩ : ∃ y_ : List (S49), y_ = (x174001_1 ++ [(⟨t175, t176, t179⟩ : S49)]) := ⟨_, rfl⟩
    replace H : (trystlaw11_Theirs.l0 k1 (l0_1.length : Int) (wrap64 (x12_1 + 1)) a0_0 l0_1 l0_2 a0_0 y180) = some (r1, r2, r3) := by first | (rw [hy180]; with_reducible exact H) | (have H2_ := (Option.bind_some _ _).symm.trans H; rw [hy180]; with_reducible exact H2_) | (have H2_ := (Option.bind_some _ _).symm.trans H; with_reducible exact H2_) | with_reducible exact H | (rw [hy180]; exact H) | exact H
    have Ny180 := Aside0.mk hy180; clear hy180; have H' := Aside0.mk H; clear H
    try go_wp2
    replace HO_174001 := Aside0.mk (Kd.R_drew HO_174001.out); replace BK171 := Aside0.mk (blk_drew BK171.out); replace BK172 := Aside0.mk (blk_drew BK172.out); replace BK173 := Aside0.mk (blk_drew BK173.out); replace HB := Aside0.mk (below_drew1 HB.out); have p174 := zQ (0 ≤ (x12_1 : Int)); have q174 := zQ (x12_1 < (l0_1.length : Int)); obtain ⟨ad174, A174_1, c174_1, e174, hx174_0, hx174_1, hx174_2, hl174_1, hi174_1⟩ := at_T53 HR0_1.out x12_1 p174 q174; have hw174_2 := hx174_2; have hw174_1 := hx174_1; have hw174_0 := hx174_0
    cases e174
    replace hx174_0 := zx HB hx174_0; replace hx174_1 := zx HB hx174_1; replace hx174_2 := zx HB hx174_2; have HR174_1 := Aside0.mk hi174_1; have HC174_1 := Aside0.mk hl174_1; clear hi174_1 hl174_1; replace p174 := eq_true p174; replace q174 := eq_true q174
    refine start_ (n := 12) (S := fun w' => w'.cell? ⟨gb173, 0, none⟩ = some (.string a0_0) ∧ w'.cell? ⟨gb173, 1, none⟩ = some (u174001) ∧ w'.cell? ⟨gb173, 2, none⟩ = some (.slice none 0 0) ∧ w'.cell? ⟨gb171, 0, none⟩ = some (.string a0_0) ∧ w'.cell? ⟨gb171, 1, none⟩ = some (.slice (some ad174) l0_1.length c0_1) ∧ w'.cell? ⟨gb171, 2, none⟩ = some (.slice A0_2 l0_2.length c0_2) ∧ w'.cell? (ad174.add ((x12_1).toNat * 3)) = some (.string ((rd_T53 l0_1 x12_1).f0)) ∧ w'.cell? ⟨(ad174.add ((x12_1).toNat * 3)).block, (ad174.add ((x12_1).toNat * 3)).off + 1, none⟩ = some (.slice A174_1 ((rd_T53 l0_1 x12_1).f1).length c174_1) ∧ w'.cell? ⟨(ad174.add ((x12_1).toNat * 3)).block, (ad174.add ((x12_1).toNat * 3)).off + 2, none⟩ = some (.string ((rd_T53 l0_1 x12_1).f2))) (ds := [11]) (bs 12 0) (by kernel_rfl) rfl rfl ⟨(blk_cell BK173.out 0).trans rfl, (blk_cell BK173.out 1).trans rfl, (blk_cell BK173.out 2).trans rfl, (blk_cell BK171.out 0).trans rfl, (blk_cell BK171.out 1).trans rfl, (blk_cell BK171.out 2).trans rfl, (zx HB hw174_0), (zx HB hw174_1), (zx HB hw174_2)⟩ (fun hHeld => ?_); refine with_tabW trystlaw11_Theirs.tab5 trystlaw11_Theirs.bits5 (fun HT_ HW_ => ?_)
    generalize wr.drew = w16 at HO_174001 BK171 BK172 BK173 HB HR174_1 hx174_0 hx174_1 hx174_2 hHeld ⊢; refine zp 0 15 (bs 12 1) ?_; refine zp 2 17 (bs 12 5) ?_; refine zp 4 19 (bs 12 21) ?_; refine zt 1 16 (bs 12 23) ?_; refine zt 3 18 (bs 12 31) ?_; refine zp 5 20 (bs 12 63) ?_; refine zt 6 21 (bs 12 127) ?_; refine one_ (i := 7) (N := some 22) (bs 12 255) rfl rfl (one_of HT_.out (by kernel_rfl)) (by decide) (fun K hK => ?_); refine goes_ Tryz.func20 (by kernel_rfl) rfl #[.agg #[.string ((rd_T53 l0_1 x12_1).f0), .slice A174_1 ((rd_T53 l0_1 x12_1).f1).length c174_1, .string ((rd_T53 l0_1 x12_1).f2)]] (by rfl) rfl rfl zA ?_
    with_reducible refine (trystlaw10_Theirs.calls k1 ((rd_T53 l0_1 x12_1).f0) _ _ ((rd_T53 l0_1 x12_1).f1) ((rd_T53 l0_1 x12_1).f2) t175 t176 t179 _ zG ?side1 ?side2 A14.out).mono ?_
    (case side1 => exact Kd.C_below (Kd.C_below HR174_1.out HB.out) zX)
    (case side2 => exact HC174_1.out)
    rintro e w17 ⟨v177, rfl, ho0, hb⟩; refine ⟨_, rfl, ?_⟩; replace HO_174001 := Aside0.mk (Kd.R_elder' (Kd.R_below HO_174001.out zX) (Kd.S_base ho0) hb); replace HO178 := Aside0.mk (Kd.S_lower ho0 (below_size zB)); replace BK171 := zb BK171 hb; replace BK172 := zb BK172 hb; replace BK173 := zb BK173 hb; replace HB := zw hb; (try clear hb); (try clear hb2); (try clear hk); (try clear hi); (try clear ho0); obtain ⟨Ao19, co19, eo19⟩ := Kd.S_slice HO178.out
    (first | subst eo19 | (injection eo19 with f1_ f2_ f3_; have f4_ := f1_.symm; have f5_ := f3_.symm; clear f1_ f2_ f3_; subst f4_; subst f5_))
    refine hK.out _ _ ⟨(blk_cell BK173.out 0).trans rfl, (blk_cell BK173.out 1).trans rfl, (blk_cell BK173.out 2).trans rfl, (blk_cell BK171.out 0).trans rfl, (blk_cell BK171.out 1).trans rfl, (blk_cell BK171.out 2).trans rfl, (zx HB hw174_0), (zx HB hw174_1), (zx HB hw174_2)⟩ (fun hHeld => ?_); clear hK K; refine zr ?_; refine one_ (i := 8) (N := some 23) (bs 12 511) rfl rfl (one_of HT_.out (by kernel_rfl)) (by decide) (fun K hK => ?_); refine value_ (w1 := ?_) (v := ?_) (by rfl) rfl ?_ ?_; rotate_left 2
    ·go_simp
     constructor
     ·rfl
     ·rfl
    refine hK.out _ _ ⟨(blk_cell (blk_alloc BK173.out _) 0).trans rfl, (blk_cell (blk_alloc BK173.out _) 1).trans rfl, (blk_cell (blk_alloc BK173.out _) 2).trans rfl, (blk_cell (blk_alloc BK171.out _) 0).trans rfl, (blk_cell (blk_alloc BK171.out _) 1).trans rfl, (blk_cell (blk_alloc BK171.out _) 2).trans rfl, (World.cell?_alloc_lt _ _ _ (World.block_lt_of_cell? _ _ ((zx HB hw174_0)))).trans ((zx HB hw174_0)), (World.cell?_alloc_lt _ _ _ (World.block_lt_of_cell? _ _ ((zx HB hw174_1)))).trans ((zx HB hw174_1)), (World.cell?_alloc_lt _ _ _ (World.block_lt_of_cell? _ _ ((zx HB hw174_2)))).trans ((zx HB hw174_2))⟩ (fun hHeld => ?_)
    clear hK K; refine zr ?_; refine one_ (i := 9) (N := some 24) (bs 12 1023) rfl rfl (one_of HT_.out (by kernel_rfl)) (by decide) (fun K hK => ?_); refine Kd.R_append_step k49 (w0 := w) w.heap.size (by rfl) (.tmp 16) (.tmp 23) 28 49 (.agg #[(.string ⟨#[]⟩), (.slice none 0 0), (.string ⟨#[]⟩)]) 56 rfl Tryz.underlying28 info49 rfl (by decide) (by omega) u174001 x174001_1 (⟨t175, t176, t179⟩ : S49) [.string t175, .slice Ao19 t176.length co19, .string t179] (fun _ => True) (fun k_ => ((fun _ => True)) k_ ∧ some k_ ≠ (u174001 : Value).ownBlock) rfl rfl ?aP (fun _ hk => hk) ?aF ?aO ?aB ?aS ?aL ?_
    (case aP => exact k49_mkM _ _ _ (⟨t175, t176, t179⟩ : S49) (Kd.R_mono (Kd.R_apart' ((Kd.S_R HO178.out)) (Kd.R_typed HO_174001.out) (by decide)) (fun k_ hk => ⟨trivial, hk.2⟩)))
    (case aB => exact zB)
    (case aF => exact (fun _ _ => trivial))
    (case aO => exact (by (with_reducible repeat (first | apply Kd.R_alloc | apply Kd.R_drewN | apply Kd.R_drew)); exact Kd.R_mono HO_174001.out (fun _ hk => trivial)))
    (case aS => exact (below_size zB))
    (case aL => have := LMc15.out; omega)
    intro v181 w18 ho hb hg hat; rw [← Ny180.out] at ho; have n0_ := Aside0.mk (blk_grown (g := gb171) (o := .cells #[.string a0_0, .slice (some ad174) l0_1.length c0_1, .slice A0_2 l0_2.length c0_2] 25 (0, 0)) (blk_below BK171.out zX) hg (Kd.R_ne HO_174001.out BK171.out (by decide))); have n1_ := Aside0.mk (blk_grown (g := gb172) (o := .cells #[.string (⟨#[]⟩ : ByteArray), .slice none 0 0, .slice none 0 0] 31 (0, 0)) (blk_below BK172.out zX) hg (Kd.R_ne HO_174001.out BK172.out (by decide))); have n2_ := Aside0.mk (blk_grown (g := gb173) (o := .cells #[.string a0_0, u174001, .slice none 0 0] 31 (0, 0)) (blk_below BK173.out zX) hg (Kd.R_ne HO_174001.out BK173.out (by decide))); have n3_ := Aside0.mk (hb); have n4_ := Aside0.mk (ho); clear BK171; clear BK172; clear BK173; clear HB; clear HO_174001; clear HO178; have BK171 := n0_; have BK172 := n1_; have BK173 := n2_; have HB := n3_
    have HO182 := n4_; clear n0_ n1_ n2_ n3_ n4_; clear ho hb hg hat; obtain ⟨Ao20, co20, eo20⟩ := Kd.R_slice HO182.out
    (first | subst eo20 | (injection eo20 with f1_ f2_ f3_; have f4_ := f1_.symm; have f5_ := f3_.symm; clear f1_ f2_ f3_; subst f4_; subst f5_))
    refine hK.out _ _ ⟨(blk_cell BK173.out 0).trans rfl, (blk_cell BK173.out 1).trans rfl, (blk_cell BK173.out 2).trans rfl, (blk_cell BK171.out 0).trans rfl, (blk_cell BK171.out 1).trans rfl, (blk_cell BK171.out 2).trans rfl, (zx HB hw174_0), (zx HB hw174_1), (zx HB hw174_2)⟩ (fun hHeld => ?_); clear hK K; refine zr ?_; refine zp 10 25 (bs 12 2047) ?_; refine last_ (i := 11) (N := none) (bs 12 4095) rfl rfl (one_of HT_.out (by kernel_rfl)) (by decide) (fun K hK => ?_); have hs21 : w18.cell? ⟨gb173, 1, none⟩ = some (u174001) := (blk_cell BK173.out 1).trans rfl; have hfs21 := zf BK173 1; have hns21_0 := NB171_173.out; have hns21_1 := NB172_173.out; have hms21_0 := NB173_171.out; have hms21_1 := NB173_172.out
    refine skip_ (w1 := ?_) (by rfl) rfl ?_ ?_; rotate_left
    ·go_simp; rfl
    refine hK.out _ _ ?_; clear hK K; refine done_ (done_of HT_.out (by kernel_rfl)) ?_
    try go_wp2
    go_roundg k1
    case measure => have := HK1.out; omega
    case rel => exact ⟨(wrap64 (x12_1 + 1)), (y180), (.slice Ao20 y180.length co20), zS, H', ⟨by have := HK1.out; omega⟩, ⟨by (with_reducible repeat (first | apply Kd.R_alloc | apply Kd.R_drewN | apply Kd.R_drew)); exact Kd.R_mono (Kd.R_far (p := ⟨gb173, 1, none⟩) (Kd.R_types HO182.out BK173.out (by decide)) (fun _ hk => hk.2) (.slice Ao20 y180.length co20)) (fun _ hk => trivial)⟩, ⟨by (with_reducible repeat (first | refine blk_drewN ?_ _ | refine blk_drew ?_ | refine blk_alloc ?_ _)); refine blk_far ?_ NB171_173.out _; (with_reducible repeat (first | refine blk_drewN ?_ _ | refine blk_drew ?_ | refine blk_alloc ?_ _)); exact BK171.out⟩, ⟨by (with_reducible repeat (first | refine blk_drewN ?_ _ | refine blk_drew ?_ | refine blk_alloc ?_ _)); refine blk_far ?_ NB172_173.out _; (with_reducible repeat (first | refine blk_drewN ?_ _ | refine blk_drew ?_ | refine blk_alloc ?_ _)); exact BK172.out⟩, ⟨by (with_reducible repeat (first | refine blk_drewN ?_ _ | refine blk_drew ?_ | refine blk_alloc ?_ _)); refine blk_put (cs := #[.string a0_0, u174001, .slice none 0 0]) ?_ 1 _ rfl; (with_reducible repeat (first | refine blk_drewN ?_ _ | refine blk_drew ?_ | refine blk_alloc ?_ _)); exact BK173.out⟩, ⟨zB⟩⟩
   ·have H' := Aside0.mk H; clear H; have hnb22 := NB171_172.out; have hnc22 := NB172_171.out; have hnb23 := NB171_173.out; have hnc23 := NB173_171.out; have hcz24_0 := zc0 BK171; have hcz24_1 := zc1 BK171; have hcz24_2 := zc2 BK171; have hfz24_0 := zf BK171 0; have hfz24_1 := zf BK171 1; have hfz24_2 := zf BK171 2; go_wp2
    go_loopg [30] k1 (fun kq v30 w' => ∃ (x30_2 : Int) (x174002_2 : List (S31)) (u174002 : Value), v30 = .int .i64 x30_2 ∧ Aside0 (trystlaw11_Theirs.l1 kq (l0_2.length : Int) x30_2 a0_0 l0_1 l0_2 a0_0 x174001_1 x174002_2 = some (r1, r2, r3)) ∧ Aside0 (kq ≤ k1) ∧ Aside0 (Kd.R k49 49 w' w.heap.size (fun _ => True) u174001 x174001_1) ∧ Aside0 (Kd.R k31 31 w' w.heap.size (fun k_ => some k_ ≠ (u174001 : Value).ownBlock ∧ k_ ≠ gb172 ∧ k_ ≠ gb173) u174002 x174002_2) ∧ Aside0 (w'.heap[gb171]? = some (.cells #[.string a0_0, (.slice A0_1 l0_1.length c0_1), (.slice A0_2 l0_2.length c0_2)] 25 (0, 0))) ∧ Aside0 (w'.heap[gb172]? = some (.cells #[.string (⟨#[]⟩ : ByteArray), (.slice none 0 0), (.slice none 0 0)] 31 (0, 0))) ∧ Aside0 (w'.heap[gb173]? = some (.cells #[.string a0_0, u174001, u174002] 31 (0, 0))) ∧ Aside0 (Below w.heap.size w w'))
    case atStart => exact ⟨(0), (([] : List (S31))), (.slice none 0 0), zS, H', ⟨Nat.le_refl _⟩, ⟨Kd.R_below HO_174001.out zX⟩, ⟨by first | exact Kd.R_nil _ _ _ _ _ | exact Kd.N_nil _ _ _ _ _ | exact Kd.V_nil _ _ _ _ _ | exact Kd.Q_nil _ _ _ _ _ | exact Kd.S_nil _ _ _ _ _⟩, ⟨blk_below BK171.out zX⟩, ⟨blk_below BK172.out zX⟩, ⟨blk_below BK173.out zX⟩, ⟨zB⟩⟩
    case round =>
     clear H'; clear c11b0 hcz24_0 hcz24_1 hcz24_2 hfz24_0 hfz24_1 hfz24_2; obtain ⟨x30_2, x174002_2, u174002, rfl, HA, HK2, HO_174001, HO_174002, BK171, BK172, BK173, HB⟩ := hrel
     cases gk with
     | zero => exact absurd HA.out (by simp [trystlaw11_Theirs.l1])
     | succ k2 =>
      have H := HA.out; clear HA; simp only [trystlaw11_Theirs.l1] at H; replace H := zId H; rcases H with ⟨-, c25b0, H⟩ | ⟨-, c25b0, H⟩
      ·replace H := zJd H; obtain ⟨-, c26b0, H⟩ := H; replace H := zJd H; obtain ⟨-, c27b0, H⟩ := H; replace H := Option.bind_eq_some_iff.mp H; obtain ⟨⟨t184, t185, t188⟩, A280, H⟩ := H; replace H : (if x174002_2.length < 2199023255552 then (trystlaw11_Theirs.l1 k2 (l0_2.length : Int) (wrap64 (x30_2 + 1)) a0_0 l0_1 l0_2 a0_0 x174001_1 (x174002_2 ++ [(⟨t184, t185, t188⟩ : S31)])) else (none)) = some (r1, r2, r3) := H; have A28 := Aside0.mk A280; clear A280; replace H := zJ H; obtain ⟨c29, H⟩ := H; have LMc29 := Aside0.mk c29; clear c29; obtain ⟨y191, hy191⟩ : ∃ y_ : List (S31), y_ = (x174002_2 ++ [(⟨t184, t185, t188⟩ : S31)]) := ⟨_, rfl⟩
       replace H : (trystlaw11_Theirs.l1 k2 (l0_2.length : Int) (wrap64 (x30_2 + 1)) a0_0 l0_1 l0_2 a0_0 x174001_1 y191) = some (r1, r2, r3) := by first | (rw [hy191]; with_reducible exact H) | (have H2_ := (Option.bind_some _ _).symm.trans H; rw [hy191]; with_reducible exact H2_) | (have H2_ := (Option.bind_some _ _).symm.trans H; with_reducible exact H2_) | with_reducible exact H | (rw [hy191]; exact H) | exact H
       have Ny191 := Aside0.mk hy191; clear hy191; have H' := Aside0.mk H; clear H
       try go_wp2
       replace HO_174001 := Aside0.mk (Kd.R_drew HO_174001.out); replace HO_174002 := Aside0.mk (Kd.R_drew HO_174002.out); replace BK171 := Aside0.mk (blk_drew BK171.out); replace BK172 := Aside0.mk (blk_drew BK172.out); replace BK173 := Aside0.mk (blk_drew BK173.out); replace HB := Aside0.mk (below_drew1 HB.out); have p183 := zQ (0 ≤ (x30_2 : Int)); have q183 := zQ (x30_2 < (l0_2.length : Int)); obtain ⟨ad183, A183_1, c183_1, A183_2, c183_2, e183, hx183_0, hx183_1, hx183_2, hl183_1, hi183_1, hl183_2, hi183_2⟩ := at_T25 HR0_2.out x30_2 p183 q183; have hw183_2 := hx183_2; have hw183_1 := hx183_1; have hw183_0 := hx183_0
       cases e183
       replace hx183_0 := zx HB hx183_0; replace hx183_1 := zx HB hx183_1; replace hx183_2 := zx HB hx183_2; have HR183_1 := Aside0.mk hi183_1; have HC183_1 := Aside0.mk hl183_1; clear hi183_1 hl183_1; have HR183_2 := Aside0.mk hi183_2; have HC183_2 := Aside0.mk hl183_2; clear hi183_2 hl183_2; replace p183 := eq_true p183; replace q183 := eq_true q183
       refine start_ (n := 12) (S := fun w' => w'.cell? ⟨gb173, 0, none⟩ = some (.string a0_0) ∧ w'.cell? ⟨gb173, 1, none⟩ = some (u174001) ∧ w'.cell? ⟨gb173, 2, none⟩ = some (u174002) ∧ w'.cell? ⟨gb171, 0, none⟩ = some (.string a0_0) ∧ w'.cell? ⟨gb171, 1, none⟩ = some (.slice A0_1 l0_1.length c0_1) ∧ w'.cell? ⟨gb171, 2, none⟩ = some (.slice (some ad183) l0_2.length c0_2) ∧ w'.cell? (ad183.add ((x30_2).toNat * 3)) = some (.string ((rd_T25 l0_2 x30_2).f0)) ∧ w'.cell? ⟨(ad183.add ((x30_2).toNat * 3)).block, (ad183.add ((x30_2).toNat * 3)).off + 1, none⟩ = some (.slice A183_1 ((rd_T25 l0_2 x30_2).f1).length c183_1) ∧ w'.cell? ⟨(ad183.add ((x30_2).toNat * 3)).block, (ad183.add ((x30_2).toNat * 3)).off + 2, none⟩ = some (.slice A183_2 ((rd_T25 l0_2 x30_2).f2).length c183_2)) (ds := [11]) (bs 12 0) (by kernel_rfl) rfl rfl ⟨(blk_cell BK173.out 0).trans rfl, (blk_cell BK173.out 1).trans rfl, (blk_cell BK173.out 2).trans rfl, (blk_cell BK171.out 0).trans rfl, (blk_cell BK171.out 1).trans rfl, (blk_cell BK171.out 2).trans rfl, (zx HB hw183_0), (zx HB hw183_1), (zx HB hw183_2)⟩ (fun hHeld => ?_); refine with_tabW trystlaw11_Theirs.tab10 trystlaw11_Theirs.bits10 (fun HT_ HW_ => ?_)
       generalize wr.drew = w30 at HO_174001 HO_174002 BK171 BK172 BK173 HB HR183_1 HR183_2 hx183_0 hx183_1 hx183_2 hHeld ⊢; refine zp 0 33 (bs 12 1) ?_; refine zp 2 35 (bs 12 5) ?_; refine zp 4 37 (bs 12 21) ?_; refine zt 1 34 (bs 12 23) ?_; refine zt 3 36 (bs 12 31) ?_; refine zp 5 38 (bs 12 63) ?_; refine zt 6 39 (bs 12 127) ?_; refine one_ (i := 7) (N := some 40) (bs 12 255) rfl rfl (one_of HT_.out (by kernel_rfl)) (by decide) (fun K hK => ?_); refine goes_ Tryz.func8 (by kernel_rfl) rfl #[.agg #[.string ((rd_T25 l0_2 x30_2).f0), .slice A183_1 ((rd_T25 l0_2 x30_2).f1).length c183_1, .slice A183_2 ((rd_T25 l0_2 x30_2).f2).length c183_2]] (by rfl) rfl rfl zA ?_
       with_reducible refine (ih k2 (by have := HK1.out; have := HK2.out; omega) ((rd_T25 l0_2 x30_2).f0) _ _ ((rd_T25 l0_2 x30_2).f1) _ _ ((rd_T25 l0_2 x30_2).f2) t184 t185 t188 _ zG ?side1 ?side2 ?side3 ?side4 A28.out).mono ?_
       (case side1 => exact Kd.C_below (Kd.C_below HR183_1.out HB.out) zX)
       (case side2 => exact HC183_1.out)
       (case side3 => exact Kd.C_below (Kd.C_below HR183_2.out HB.out) zX)
       (case side4 => exact HC183_2.out)
       rintro e w31 ⟨v186, v189, rfl, ho0, ho1, hb⟩; refine ⟨_, rfl, ?_⟩; have n0_ := Aside0.mk (Kd.R_elder' (Kd.R_below HO_174001.out zX) (Kd.R_base ho0) hb); have n1_ := Aside0.mk (Kd.R_mono (Kd.R_told (Kd.R_told (Kd.R_old (Kd.R_below HO_174002.out zX) hb) (Kd.R_base ho0)) (Kd.R_base ho1)) (fun _ h_ => h_.1)); have n2_ := Aside0.mk (Kd.R_lower (Kd.R_new' ho0 (Kd.R_lt (Kd.R_below HO_174001.out zX))) (below_size zB)); have n3_ := Aside0.mk (Kd.R_lower (Kd.R_newB (Kd.R_newB (Kd.R_new' (Kd.R_new' ho1 (Kd.R_lt (Kd.R_below HO_174001.out zX))) (Kd.R_lt (Kd.R_below HO_174002.out zX))) (g := gb172) (o := .cells #[.string (⟨#[]⟩ : ByteArray), .slice none 0 0, .slice none 0 0] 31 (0, 0)) (blk_below BK172.out zX)) (g := gb173) (o := .cells #[.string a0_0, u174001, u174002] 31 (0, 0)) (blk_below BK173.out zX)) (below_size zB)); have n4_ := zb BK171 hb
       have n5_ := zb BK172 hb; have n6_ := zb BK173 hb; have n7_ := zw hb; clear HO_174001; clear HO_174002; clear BK171; clear BK172; clear BK173; clear HB; have HO_174001 := n0_; have HO_174002 := n1_; have HO187 := n2_; have HO190 := n3_; have BK171 := n4_; have BK172 := n5_; have BK173 := n6_; have HB := n7_; clear n0_ n1_ n2_ n3_ n4_ n5_ n6_ n7_; (try clear hb); (try clear hb2); (try clear hk); (try clear hi); (try clear ho0); (try clear ho1); obtain ⟨Ao33, co33, eo33⟩ := Kd.R_slice HO187.out
       (first | subst eo33 | (injection eo33 with f1_ f2_ f3_; have f4_ := f1_.symm; have f5_ := f3_.symm; clear f1_ f2_ f3_; subst f4_; subst f5_))
       obtain ⟨Ao34, co34, eo34⟩ := Kd.R_slice HO190.out
       (first | subst eo34 | (injection eo34 with f1_ f2_ f3_; have f4_ := f1_.symm; have f5_ := f3_.symm; clear f1_ f2_ f3_; subst f4_; subst f5_))
       refine hK.out _ _ ⟨(blk_cell BK173.out 0).trans rfl, (blk_cell BK173.out 1).trans rfl, (blk_cell BK173.out 2).trans rfl, (blk_cell BK171.out 0).trans rfl, (blk_cell BK171.out 1).trans rfl, (blk_cell BK171.out 2).trans rfl, (zx HB hw183_0), (zx HB hw183_1), (zx HB hw183_2)⟩ (fun hHeld => ?_); clear hK K; refine zr ?_; refine one_ (i := 8) (N := some 41) (bs 12 511) rfl rfl (one_of HT_.out (by kernel_rfl)) (by decide) (fun K hK => ?_); refine value_ (w1 := ?_) (v := ?_) (by rfl) rfl ?_ ?_; rotate_left 2
       ·go_simp
        constructor
        ·rfl
        ·rfl
       refine hK.out _ _ ⟨(blk_cell (blk_alloc BK173.out _) 0).trans rfl, (blk_cell (blk_alloc BK173.out _) 1).trans rfl, (blk_cell (blk_alloc BK173.out _) 2).trans rfl, (blk_cell (blk_alloc BK171.out _) 0).trans rfl, (blk_cell (blk_alloc BK171.out _) 1).trans rfl, (blk_cell (blk_alloc BK171.out _) 2).trans rfl, (World.cell?_alloc_lt _ _ _ (World.block_lt_of_cell? _ _ ((zx HB hw183_0)))).trans ((zx HB hw183_0)), (World.cell?_alloc_lt _ _ _ (World.block_lt_of_cell? _ _ ((zx HB hw183_1)))).trans ((zx HB hw183_1)), (World.cell?_alloc_lt _ _ _ (World.block_lt_of_cell? _ _ ((zx HB hw183_2)))).trans ((zx HB hw183_2))⟩ (fun hHeld => ?_)
       clear hK K; refine zr ?_; refine one_ (i := 9) (N := some 42) (bs 12 1023) rfl rfl (one_of HT_.out (by kernel_rfl)) (by decide) (fun K hK => ?_); refine Kd.R_append_step k31 (w0 := w) w.heap.size (by rfl) (.tmp 34) (.tmp 41) 29 31 (.agg #[(.string ⟨#[]⟩), (.slice none 0 0), (.slice none 0 0)]) 64 rfl Tryz.underlying29 info31 rfl (by decide) (by omega) u174002 x174002_2 (⟨t184, t185, t188⟩ : S31) [.string t184, .slice Ao33 t185.length co33, .slice Ao34 t188.length co34] (fun k_ => some k_ ≠ (u174001 : Value).ownBlock ∧ k_ ≠ gb172 ∧ k_ ≠ gb173) (fun k_ => ((fun k_ => some k_ ≠ (u174001 : Value).ownBlock ∧ k_ ≠ gb172 ∧ k_ ≠ gb173)) k_ ∧ some k_ ≠ (u174002 : Value).ownBlock) rfl rfl ?aP (fun _ hk => hk) ?aF ?aO ?aB ?aS ?aL ?_
       (case aP => exact k31_mkM _ _ _ (⟨t184, t185, t188⟩ : S31) (Kd.R_mono (Kd.R_types (Kd.R_types (Kd.R_apart' (HO187.out) (Kd.R_typed HO_174002.out) (by decide)) BK172.out (by decide)) BK173.out (by decide)) (fun k_ hk => ⟨⟨hk.1.1.1.2, ⟨hk.1.2, hk.2⟩⟩, hk.1.1.2⟩)) (Kd.R_mono (HO190.out) (fun k_ hk => ⟨⟨hk.1.1.1.2, ⟨hk.1.2, hk.2⟩⟩, hk.1.1.2⟩)))
       (case aB => exact zB)
       (case aF => exact (fun k_ hk => ⟨Kd.fresh' (Kd.R_lt (Kd.R_below HO_174001.out zX)) k_ hk, Kd.freshB (g := gb172) (o := .cells #[.string (⟨#[]⟩ : ByteArray), .slice none 0 0, .slice none 0 0] 31 (0, 0)) (blk_below BK172.out zX) k_ hk, Kd.freshB (g := gb173) (o := .cells #[.string a0_0, u174001, u174002] 31 (0, 0)) (blk_below BK173.out zX) k_ hk⟩))
       (case aO => exact (by (with_reducible repeat (first | apply Kd.R_alloc | apply Kd.R_drewN | apply Kd.R_drew)); exact Kd.R_mono HO_174002.out (fun _ hk => ⟨hk.1.1.1, ⟨hk.1.1.2.1, hk.1.1.2.2⟩⟩)))
       (case aS => exact (below_size zB))
       (case aL => have := LMc29.out; omega)
       intro v192 w32 ho hb hg hat; rw [← Ny191.out] at ho; have n0_ := Aside0.mk (Kd.R_over' (Kd.R_below HO_174001.out zX) (Kd.R_typed (Kd.R_below HO_174002.out zX)) (by decide) hg); have n1_ := Aside0.mk (blk_grown (g := gb171) (o := .cells #[.string a0_0, .slice A0_1 l0_1.length c0_1, .slice (some ad183) l0_2.length c0_2] 25 (0, 0)) (blk_below BK171.out zX) hg (Kd.R_ne HO_174002.out BK171.out (by decide))); have n2_ := Aside0.mk (blk_grown (g := gb172) (o := .cells #[.string (⟨#[]⟩ : ByteArray), .slice none 0 0, .slice none 0 0] 31 (0, 0)) (blk_below BK172.out zX) hg (Kd.R_away HO_174002.out (fun _ hk => hk.1.1.2.1))); have n3_ := Aside0.mk (blk_grown (g := gb173) (o := .cells #[.string a0_0, u174001, u174002] 31 (0, 0)) (blk_below BK173.out zX) hg (Kd.R_away HO_174002.out (fun _ hk => hk.1.1.2.2))); have n4_ := Aside0.mk (hb); have n5_ := Aside0.mk (ho); clear HO_174001
       clear BK171; clear BK172; clear BK173; clear HB; clear HO_174002; clear HO187; clear HO190; have HO_174001 := n0_; have BK171 := n1_; have BK172 := n2_; have BK173 := n3_; have HB := n4_; have HO193 := n5_; clear n0_ n1_ n2_ n3_ n4_ n5_; clear ho hb hg hat; obtain ⟨Ao35, co35, eo35⟩ := Kd.R_slice HO193.out
       (first | subst eo35 | (injection eo35 with f1_ f2_ f3_; have f4_ := f1_.symm; have f5_ := f3_.symm; clear f1_ f2_ f3_; subst f4_; subst f5_))
       refine hK.out _ _ ⟨(blk_cell BK173.out 0).trans rfl, (blk_cell BK173.out 1).trans rfl, (blk_cell BK173.out 2).trans rfl, (blk_cell BK171.out 0).trans rfl, (blk_cell BK171.out 1).trans rfl, (blk_cell BK171.out 2).trans rfl, (zx HB hw183_0), (zx HB hw183_1), (zx HB hw183_2)⟩ (fun hHeld => ?_); clear hK K; refine zr ?_; refine zp 10 43 (bs 12 2047) ?_; refine last_ (i := 11) (N := none) (bs 12 4095) rfl rfl (one_of HT_.out (by kernel_rfl)) (by decide) (fun K hK => ?_); have hs36 : w32.cell? ⟨gb173, 2, none⟩ = some (u174002) := (blk_cell BK173.out 2).trans rfl; have hfs36 := zf BK173 2; have hns36_0 := NB171_173.out; have hns36_1 := NB172_173.out; have hms36_0 := NB173_171.out; have hms36_1 := NB173_172.out
       refine skip_ (w1 := ?_) (by rfl) rfl ?_ ?_; rotate_left
       ·go_simp; rfl
       refine hK.out _ _ ?_; clear hK K; refine done_ (done_of HT_.out (by kernel_rfl)) ?_
       try go_wp2
       go_roundg k2
       case measure => have := HK1.out; have := HK2.out; omega
       case rel => exact ⟨(wrap64 (x30_2 + 1)), (y191), (.slice Ao35 y191.length co35), zS, H', ⟨by have := HK1.out; have := HK2.out; omega⟩, ⟨by (with_reducible repeat (first | apply Kd.R_alloc | apply Kd.R_drewN | apply Kd.R_drew)); exact Kd.R_mono (Kd.R_far (p := ⟨gb173, 2, none⟩) (Kd.R_types HO_174001.out BK173.out (by decide)) (fun _ hk => hk.2) (.slice Ao35 y191.length co35)) (fun _ hk => trivial)⟩, ⟨by (with_reducible repeat (first | apply Kd.R_alloc | apply Kd.R_drewN | apply Kd.R_drew)); exact Kd.R_mono (Kd.R_far (p := ⟨gb173, 2, none⟩) (Kd.R_mono HO193.out (fun k_ hk => (⟨hk, hk.2.2⟩ : _ ∧ k_ ≠ gb173))) (fun _ hk => hk.2) (.slice Ao35 y191.length co35)) (fun _ hk => ⟨hk.1.1, ⟨hk.1.2.1, hk.1.2.2⟩⟩)⟩, ⟨by (with_reducible repeat (first | refine blk_drewN ?_ _ | refine blk_drew ?_ | refine blk_alloc ?_ _)); refine blk_far ?_ NB171_173.out _; (with_reducible repeat (first | refine blk_drewN ?_ _ | refine blk_drew ?_ | refine blk_alloc ?_ _)); exact BK171.out⟩, ⟨by (with_reducible repeat (first | refine blk_drewN ?_ _ | refine blk_drew ?_ | refine blk_alloc ?_ _)); refine blk_far ?_ NB172_173.out _; (with_reducible repeat (first | refine blk_drewN ?_ _ | refine blk_drew ?_ | refine blk_alloc ?_ _)); exact BK172.out⟩, ⟨by (with_reducible repeat (first | refine blk_drewN ?_ _ | refine blk_drew ?_ | refine blk_alloc ?_ _)); refine blk_put (cs := #[.string a0_0, u174001, u174002]) ?_ 2 _ rfl; (with_reducible repeat (first | refine blk_drewN ?_ _ | refine blk_drew ?_ | refine blk_alloc ?_ _)); exact BK173.out⟩, ⟨zB⟩⟩
      ·simp only [Option.some.injEq, Prod.mk.injEq] at H; obtain ⟨rfl, rfl, rfl⟩ := H; have hnb37 := NB173_171.out; have hnc37 := NB171_173.out; have hnb38 := NB173_172.out; have hnc38 := NB172_173.out; have hcz39_0 := zc0 BK173; have hcz39_1 := zc1 BK173; have hcz39_2 := zc2 BK173; have hfz39_0 := zf BK173 0; have hfz39_1 := zf BK173 1; have hfz39_2 := zf BK173 2; have hnb40 := NB172_171.out; have hnc40 := NB171_172.out; have hcz41_0 := zc0 BK172; have hcz41_1 := zc1 BK172
       have hcz41_2 := zc2 BK172; have hfz41_0 := zf BK172 0; have hfz41_1 := zf BK172 1; have hfz41_2 := zf BK172 2; obtain ⟨Ao42, co42, eo42⟩ := Kd.R_slice HO_174001.out; subst eo42; obtain ⟨Ao43, co43, eo43⟩ := Kd.R_slice HO_174002.out; subst eo43; go_wp2
       refine bodyPost_ret (results_cell_row rfl _ _ gb172 31 #[.string a0_0, .slice Ao42 x174001_1.length co42, .slice Ao43 x174002_2.length co43] (0, 0) _ rfl (by (with_reducible repeat (first | refine blk_drewN ?_ _ | refine blk_drew ?_ | refine blk_alloc ?_ _)); refine blk_put (cs := #[.string a0_0, .slice Ao42 x174001_1.length co42, .slice none 0 0]) ?_ 2 _ rfl; (with_reducible repeat (first | refine blk_drewN ?_ _ | refine blk_drew ?_ | refine blk_alloc ?_ _)); refine blk_put (cs := #[.string a0_0, .slice none 0 0, .slice none 0 0]) ?_ 1 _ rfl; (with_reducible repeat (first | refine blk_drewN ?_ _ | refine blk_drew ?_ | refine blk_alloc ?_ _)); refine blk_put (cs := #[.string (⟨#[]⟩ : ByteArray), .slice none 0 0, .slice none 0 0]) ?_ 0 _ rfl; (with_reducible repeat (first | refine blk_drewN ?_ _ | refine blk_drew ?_ | refine blk_alloc ?_ _)); exact BK172.out) Tryz.underlying31 rfl (by kernel_rfl)) rfl ?_
       exact ⟨_, _, zE, by (with_reducible repeat (first | apply Kd.R_alloc | apply Kd.R_drewN | apply Kd.R_drew)); exact Kd.R_mono (Kd.R_far (p := ⟨gb172, 2, none⟩) (Kd.R_far (p := ⟨gb172, 1, none⟩) (Kd.R_far (p := ⟨gb172, 0, none⟩) (Kd.R_types HO_174001.out BK172.out (by decide)) (fun _ hk => hk.2) (.string a0_0)) (fun _ hk => hk.2) (.slice Ao42 x174001_1.length co42)) (fun _ hk => hk.2) (.slice Ao43 x174002_2.length co43)) (fun _ hk => trivial), by (with_reducible repeat (first | apply Kd.R_alloc | apply Kd.R_drewN | apply Kd.R_drew)); exact Kd.R_mono (Kd.R_far (p := ⟨gb172, 2, none⟩) (Kd.R_far (p := ⟨gb172, 1, none⟩) (Kd.R_far (p := ⟨gb172, 0, none⟩) (Kd.R_mono HO_174002.out (fun k_ hk => (⟨hk, hk.2.1⟩ : _ ∧ k_ ≠ gb172))) (fun _ hk => hk.2) (.string a0_0)) (fun _ hk => hk.2) (.slice Ao42 x174001_1.length co42)) (fun _ hk => hk.2) (.slice Ao43 x174002_2.length co43)) (fun _ hk => hk.1.1), zB⟩
end Go.Proofs.YtdojmdbaiddkgaaGreatDoor.Print
end
section
set_option linter.unusedVariables false
set_option linter.unusedSimpArgs false
set_option linter.unusedSectionVars false
namespace Go.Proofs.YtdojmdbaiddkgaaGreatDoor.Pure
open Go.RowKit Go.Proofs.YtdojmdbaiddkgaaGreatDoor.Print Go.Proofs.YtdojmdbaiddkgaaGreatDoorW.PrintWords Go.Proofs.YtdojmdbaiddkgaaGreatDoorW.PrintLast
abbrev RL := S53
abbrev PL := S49
abbrev RT := S25
abbrev PT := S31
def toL (x : RL) : PL := ⟨x.f0, x.f1.map toP, x.f2⟩
mutual
def toT : RT → PT
  | ⟨n, l, k⟩ => ⟨n, l.map toL, toTs k⟩
def toTs : List RT → List PT
  | [] => []
  | t :: r => toT t :: toTs r
end
theorem toTs_map : ∀ l : List RT, toTs l = l.map toT
  | [] => by simp [toTs]
  | t :: r => by simp only [toTs, List.map_cons]; rw [toTs_map r]
theorem toT_f (t : RT) : toT t = ⟨t.f0, t.f1.map toL, t.f2.map toT⟩ := by
  obtain ⟨n, l, k⟩ := t
  simp only [toT]; rw [toTs_map]
/-- A line's lists are of a size that any memory bears. -/
def LB (x : RL) : Prop := x.f1.length < 3518437208883 ∧ ∀ p ∈ x.f1, p.f1.length < 8796093022208
mutual
def TB : RT → Prop
  | ⟨n, l, k⟩ => (l.length < 2513169434916 ∧ ∀ x ∈ l, LB x) ∧ k.length < 2199023255552 ∧ TBs k
def TBs : List RT → Prop
  | [] => True
  | t :: r => TB t ∧ TBs r
end
theorem TBs_all : ∀ l : List RT, TBs l → ∀ t ∈ l, TB t
  | [], _, t, ht => by simp at ht
  | x :: r, h, t, ht => by
    simp only [TBs] at h
    rcases List.mem_cons.1 ht with rfl | ht
    · exact h.1
    · exact TBs_all r h.2 t ht
theorem TB_of {t : RT} (h : TB t) : (t.f1.length < 2513169434916 ∧ ∀ x ∈ t.f1, LB x) ∧ t.f2.length < 2199023255552 ∧ ∀ x ∈ t.f2, TB x := by
  obtain ⟨n, l, k⟩ := t
  simp only [TB] at h
  exact ⟨h.1, h.2.1, TBs_all k h.2.2⟩
theorem rdRL (l : List RL) (i : Nat) (h : i < l.length) : rd_T53 l (i : Int) = l[i] := by
  unfold rd_T53
  rw [Int.toNat_natCast, List.getD_eq_getElem?_getD, List.getElem?_eq_getElem h]; rfl
theorem rdRT (l : List RT) (i : Nat) (h : i < l.length) : rd_T25 l (i : Int) = l[i] := by
  unfold rd_T25
  rw [Int.toNat_natCast, List.getD_eq_getElem?_getD, List.getElem?_eq_getElem h]; rfl
theorem kid_lt {t : RT} {x : RT} (h : x ∈ t.f2) : SizeOf.sizeOf x < SizeOf.sizeOf t := by
  obtain ⟨n, l, k⟩ := t
  have h : x ∈ k := h
  have h1 := List.sizeOf_lt_of_mem h
  simp
  omega
theorem theirs_l1 (nm : ByteArray) (l : List RL) (ks : List RT) (ls : List PL) (hk : ks.length < 2199023255552) (ih : ∀ t ∈ ks, Ev (fun k => trystlaw11_Theirs.f k t.f0 t.f1 t.f2) (t.f0, t.f1.map toL, t.f2.map toT)) :
    ∀ (d i : Nat) (acc : List PT), i + d = ks.length → acc.length = i → Ev (fun k => trystlaw11_Theirs.l1 k (ks.length : Int) (i : Int) nm l ks nm ls acc) (nm, ls, acc ++ (ks.drop i).map toT) := by
  intro d
  induction d with
  | zero =>
    intro i acc hi ha
    rw [List.drop_eq_nil_of_le (by omega), List.map_nil, List.append_nil]
    exact Ev.step (f := fun _ => some (nm, ls, acc)) (fun k => by simp only [trystlaw11_Theirs.l1]; rw [if_neg (by omega)]) (Ev.now _)
  | succ d ihd =>
    intro i acc hi ha
    have hil : i < ks.length := by omega
    have h1 := ihd (i + 1) (acc ++ [toT ks[i]]) (by omega) (by simp [ha])
    rw [List.drop_eq_getElem_cons hil, List.map_cons, List.append_cons]
    refine Ev.step (f := fun k => (trystlaw11_Theirs.f k ks[i].f0 ks[i].f1 ks[i].f2).bind fun bt => trystlaw11_Theirs.l1 k (ks.length : Int) ((i + 1 : Nat) : Int) nm l ks nm ls (acc ++ [(⟨bt.1, bt.2.1, bt.2.2⟩ : PT)])) (fun k => ?_) (Ev.bind (ih _ (List.getElem_mem hil)) (by
      show Ev (fun k => trystlaw11_Theirs.l1 k (ks.length : Int) ((i + 1 : Nat) : Int) nm l ks nm ls (acc ++ [(⟨ks[i].f0, ks[i].f1.map toL, ks[i].f2.map toT⟩ : PT)])) _
      rw [← toT_f]; exact h1))
    have hb : acc.length < 2199023255552 := by omega
    simp only [trystlaw11_Theirs.l1, if_pos hb]
    rw [if_pos (by omega), if_pos (by omega), if_pos (by omega), rdRT ks i hil, wrapS i _ hil (by omega)]
theorem theirs_l0 (nm : ByteArray) (l : List RL) (ks : List RT) (hl : l.length < 2513169434916) (hlb : ∀ x ∈ l, LB x) (r : ByteArray × List PL × List PT) (next : Ev (fun k => trystlaw11_Theirs.l1 k (ks.length : Int) ((0 : Nat) : Int) nm l ks nm (l.map toL) ([] : List PT)) r) :
    ∀ (d i : Nat) (acc : List PL), i + d = l.length → acc.length = i → acc ++ (l.drop i).map toL = l.map toL → Ev (fun k => trystlaw11_Theirs.l0 k (l.length : Int) (i : Int) nm l ks nm acc) r := by
  intro d
  induction d with
  | zero =>
    intro i acc hi ha he
    rw [List.drop_eq_nil_of_le (by omega), List.map_nil, List.append_nil] at he
    subst he
    exact Ev.step (fun k => by simp only [trystlaw11_Theirs.l0]; rw [if_neg (by omega)]; rfl) next
  | succ d ihd =>
    intro i acc hi ha he
    have hil : i < l.length := by omega
    rw [List.drop_eq_getElem_cons hil, List.map_cons, List.append_cons] at he
    have h1 := ihd (i + 1) (acc ++ [toL l[i]]) (by omega) (by simp [ha]) he
    have hb := hlb _ (List.getElem_mem hil)
    refine Ev.step (f := fun k => (trystlaw10_Theirs.f k l[i].f0 l[i].f1 l[i].f2).bind fun bt => trystlaw11_Theirs.l0 k (l.length : Int) ((i + 1 : Nat) : Int) nm l ks nm (acc ++ [(⟨bt.1, bt.2.1, bt.2.2⟩ : PL)])) (fun k => ?_) (Ev.bind (theirs _ _ _ hb.1 hb.2) h1)
    have hb : acc.length < 2513169434916 := by omega
    simp only [trystlaw11_Theirs.l0, if_pos hb]
    rw [if_pos (by omega), if_pos (by omega), if_pos (by omega), rdRL l i hil, wrapS i _ hil (by omega)]
theorem theirsT : ∀ (N : Nat) (t : RT), SizeOf.sizeOf t < N → TB t → Ev (fun k => trystlaw11_Theirs.f k t.f0 t.f1 t.f2) (t.f0, t.f1.map toL, t.f2.map toT)
  | 0, t, h, _ => by omega
  | N + 1, t, h, hb => by
    obtain ⟨⟨h1, h2⟩, h3, h4⟩ := TB_of hb
    have ih : ∀ x ∈ t.f2, Ev (fun k => trystlaw11_Theirs.f k x.f0 x.f1 x.f2) (x.f0, x.f1.map toL, x.f2.map toT) := fun x hx => theirsT N x (by have := kid_lt hx; omega) (h4 x hx)
    have n1 := theirs_l1 t.f0 t.f1 t.f2 (t.f1.map toL) h3 ih t.f2.length 0 [] (by omega) rfl
    rw [List.nil_append, List.drop_zero] at n1
    have n0 := theirs_l0 t.f0 t.f1 t.f2 h1 h2 _ n1 t.f1.length 0 [] (by omega) rfl (by rw [List.nil_append, List.drop_zero])
    exact Ev.step (fun k => by simp only [trystlaw11_Theirs.f]; rfl) n0
theorem size_l1 (nm : ByteArray) (l : List RL) (ks : List RT) (dp : Int) (hl : ks.length ≤ 9000000000000000000) (ih : ∀ t ∈ ks, ∀ dp : Int, ∃ r, Ev (fun k => trystlaw11_size.f k t.f0 t.f1 t.f2 dp) r) :
    ∀ (d i : Nat) (n : Int), i + d = ks.length → ∃ r, Ev (fun k => trystlaw11_size.l1 k dp n (ks.length : Int) (i : Int) nm l ks) r := by
  intro d
  induction d with
  | zero => intro i n hi; exact ⟨n, Ev.step (f := fun _ => some n) (fun k => by simp only [trystlaw11_size.l1]; rw [if_neg (by omega)]) (Ev.now _)⟩
  | succ d ihd =>
    intro i n hi
    have hil : i < ks.length := by omega
    by_cases hd : dp > 10
    · exact ⟨1048576, Ev.step (f := fun _ => some 1048576) (fun k => by simp only [trystlaw11_size.l1]; rw [if_pos (by omega), if_pos hd]) (Ev.now _)⟩
    by_cases hn : n > 50000
    · exact ⟨1048576, Ev.step (f := fun _ => some 1048576) (fun k => by simp only [trystlaw11_size.l1]; rw [if_pos (by omega), if_neg hd, if_pos hn]) (Ev.now _)⟩
    obtain ⟨r, hr⟩ := ih _ (List.getElem_mem hil) (wrap64 (dp + 1))
    obtain ⟨q, hq⟩ := ihd (i + 1) (wrap64 (n + r)) (by omega)
    exact ⟨q, Ev.step (fun k => by simp only [trystlaw11_size.l1]; rw [if_pos (by omega), if_neg hd, if_neg hn, if_pos (by omega), if_pos (by omega), rdRT ks i hil, wrapS i _ hil hl]) (Ev.bind hr hq)⟩
end Go.Proofs.YtdojmdbaiddkgaaGreatDoor.Pure
end
section
set_option linter.unusedVariables false
set_option linter.unusedSimpArgs false
namespace Go.Proofs.YtdojmdbaiddkgaaGreatDoor.Args
open Go Go.RowKit Go.Lib Go.Proofs.YtdojmdbaiddkgaaGreatDoorW.PrintWords Go.Proofs.YtdojmdbaiddkgaaGreatDoor.Print
abbrev RTree := S25
def RdN {α : Type} (N : Nat) (d : Kd α) (t : TypeId) (B : α → Prop) : Prop := ∀ (H : Type) (enc : TypeId × Value → H) (W : World) (fuel : Nat) (cs : List Value) (x : DataW H × List MemPlace), fuel ≤ N → DataW.trod enc Tryz.prog W 0 (fun _ => true) true fuel t cs = some x → (∀ n ∈ x.1.weights Tryz.prog t, n ≤ reachBytes) → ∃ a, d.K W a cs ∧ B a
def RdFN {α : Type} (N : Nat) (d : Kd α) (ts : List TypeId) (B : α → Prop) : Prop := ∀ (H : Type) (enc : TypeId × Value → H) (W : World) (fuel : Nat) (cs : List Value) (xs : List (DataW H × List MemPlace)), fuel ≤ N → Trods enc W fuel ts cs xs → (∀ n ∈ DataW.weightsEach Tryz.prog ts (xs.map (·.1)), n ≤ reachBytes) → ∃ a, d.K W a cs ∧ B a
/-- A tree, as the walks ask for it. -/
def IsTree (W : World) (v : Value) (z : RTree) : Prop := Pure.TB z ∧ ∃ A1 c1 A2 c2, v = .agg #[.string z.f0, .slice A1 z.f1.length c1, .slice A2 z.f2.length c2] ∧ z.f1.length ≤ c1 ∧ Kd.C k53 W A1 z.f1.length z.f1 ∧ z.f2.length ≤ c2 ∧ Kd.C k25 W A2 z.f2.length z.f2
end Go.Proofs.YtdojmdbaiddkgaaGreatDoor.Args
end
section
namespace Go.Proofs.YtdojmdbaiddkgaaGreatDoor.Print
open Go.RowKit Go.Proofs.YtdojmdbaiddkgaaGreatDoorW.PrintWords Go.Proofs.YtdojmdbaiddkgaaGreatDoorW.PrintLast
set_option linter.unusedVariables false
set_option linter.unusedSimpArgs false
mutual
def trystref08_next.j2 : Nat → ByteArray → Int → Int → Int → Option (Int)
 | 0, _, _, _, _ => none
 | k + 1, x0, x1, x5, x6 => if (wrap64 (x1 + x6)) > (x0.size : Int) then (some 0) else (trystref08_next.l0 k x0 x1 x5 x6 1)
def trystref08_next.l0 : Nat → ByteArray → Int → Int → Int → Int → Option (Int)
 | 0, _, _, _, _, _ => none
 | k + 1, x0, x1, x5, x6, x7 => if x7 < x6 then (if 0 ≤ (wrap64 (x1 + x7)) then (if (wrap64 (x1 + x7)) < (x0.size : Int) then (if (bt x0 (wrap64 (x1 + x7))) < 128 then (some 0) else (if (bt x0 (wrap64 (x1 + x7))) > 191 then (some 0) else (trystref08_next.l0 k x0 x1 x5 x6 (wrap64 (x7 + 1))))) else (none)) else (none)) else (if 0 ≤ (wrap64 (x1 + 1)) then (if (wrap64 (x1 + 1)) < (x0.size : Int) then (if x5 = 224 then (if (bt x0 (wrap64 (x1 + 1))) < 160 then (some 0) else (if x5 = 237 then (if (bt x0 (wrap64 (x1 + 1))) > 159 then (some 0) else (if x5 = 240 then (if (bt x0 (wrap64 (x1 + 1))) < 144 then (some 0) else (if x5 = 244 then (if (bt x0 (wrap64 (x1 + 1))) > 143 then (some 0) else (some x6)) else (some x6))) else (if x5 = 244 then (if (bt x0 (wrap64 (x1 + 1))) > 143 then (some 0) else (some x6)) else (some x6)))) else (if x5 = 240 then (if (bt x0 (wrap64 (x1 + 1))) < 144 then (some 0) else (if x5 = 244 then (if (bt x0 (wrap64 (x1 + 1))) > 143 then (some 0) else (some x6)) else (some x6))) else (if x5 = 244 then (if (bt x0 (wrap64 (x1 + 1))) > 143 then (some 0) else (some x6)) else (some x6))))) else (if x5 = 237 then (if (bt x0 (wrap64 (x1 + 1))) > 159 then (some 0) else (if x5 = 240 then (if (bt x0 (wrap64 (x1 + 1))) < 144 then (some 0) else (if x5 = 244 then (if (bt x0 (wrap64 (x1 + 1))) > 143 then (some 0) else (some x6)) else (some x6))) else (if x5 = 244 then (if (bt x0 (wrap64 (x1 + 1))) > 143 then (some 0) else (some x6)) else (some x6)))) else (if x5 = 240 then (if (bt x0 (wrap64 (x1 + 1))) < 144 then (some 0) else (if x5 = 244 then (if (bt x0 (wrap64 (x1 + 1))) > 143 then (some 0) else (some x6)) else (some x6))) else (if x5 = 244 then (if (bt x0 (wrap64 (x1 + 1))) > 143 then (some 0) else (some x6)) else (some x6))))) else (none)) else (none))
def trystref08_next.j0 : Nat → ByteArray → Int → Int → Bool → Option (Int)
 | 0, _, _, _, _ => none
 | k + 1, x0, x1, x5, x15 => if x15 = true then (trystref08_next.j2 k x0 x1 x5 2) else (if x5 ≥ 224 then (trystref08_next.j1 k x0 x1 x5 (decide (x5 < 240))) else (trystref08_next.j1 k x0 x1 x5 false))
def trystref08_next.j1 : Nat → ByteArray → Int → Int → Bool → Option (Int)
 | 0, _, _, _, _ => none
 | k + 1, x0, x1, x5, x22 => if x22 = true then (trystref08_next.j2 k x0 x1 x5 3) else (if x5 ≥ 240 then (if x5 < 245 then (trystref08_next.j2 k x0 x1 x5 4) else (some 0)) else (some 0))
end
def trystref08_next.f (k : Nat) (a0 : ByteArray) (a1 : Int) : Option (Int) := if 0 ≤ a1 then (if a1 < (a0.size : Int) then (if (bt a0 a1) < 128 then (some 1) else (if (bt a0 a1) ≥ 194 then (trystref08_next.j0 k a0 a1 (bt a0 a1) (decide ((bt a0 a1) < 224))) else (trystref08_next.j0 k a0 a1 (bt a0 a1) false))) else (none)) else (none)
theorem trystref08_next.mono_l : ∀ k, (∀ y0 y1 y2 y3, LeO (trystref08_next.j2 k y0 y1 y2 y3) (trystref08_next.j2 (k + 1) y0 y1 y2 y3)) ∧ (∀ y0 y1 y2 y3 y4, LeO (trystref08_next.l0 k y0 y1 y2 y3 y4) (trystref08_next.l0 (k + 1) y0 y1 y2 y3 y4)) ∧ (∀ y0 y1 y2 y3, LeO (trystref08_next.j0 k y0 y1 y2 y3) (trystref08_next.j0 (k + 1) y0 y1 y2 y3)) ∧ (∀ y0 y1 y2 y3, LeO (trystref08_next.j1 k y0 y1 y2 y3) (trystref08_next.j1 (k + 1) y0 y1 y2 y3))
 | 0 => ⟨fun _ _ _ _ r h => by simp [trystref08_next.j2] at h, fun _ _ _ _ _ r h => by simp [trystref08_next.l0] at h, fun _ _ _ _ r h => by simp [trystref08_next.j0] at h, fun _ _ _ _ r h => by simp [trystref08_next.j1] at h⟩
 | k + 1 => by
  obtain ⟨ih0, ih1, ih2, ih3⟩ := trystref08_next.mono_l k
  refine ⟨?_, ?_, ?_, ?_⟩
  all_goals intros
  all_goals first | unfold trystref08_next.j2 | unfold trystref08_next.l0 | unfold trystref08_next.j0 | unfold trystref08_next.j1
  all_goals repeat' first
   | (with_reducible first | exact ih0 _ _ _ _ | exact ih1 _ _ _ _ _ | exact ih2 _ _ _ _ | exact ih3 _ _ _ _ | exact LeO.refl _ | exact LeO.none _ | refine LeO.ite ?_ ?_ | refine LeO.bind ?_ (fun _ => ?_)) | exact ih0 _ _ _ _ | exact ih1 _ _ _ _ _ | exact ih2 _ _ _ _ | exact ih3 _ _ _ _ | exact LeO.none _ | refine LeO.ite ?_ ?_ | refine LeO.bind ?_ (fun _ => ?_)
theorem trystref08_next.mono : ∀ a0 a1 k, LeO (trystref08_next.f k a0 a1) (trystref08_next.f (k + 1) a0 a1) := by
 intro a0 a1 k
 obtain ⟨ih0, ih1, ih2, ih3⟩ := trystref08_next.mono_l k
 unfold trystref08_next.f
 repeat' first
   | (with_reducible first | exact ih0 _ _ _ _ | exact ih1 _ _ _ _ _ | exact ih2 _ _ _ _ | exact ih3 _ _ _ _ | exact LeO.refl _ | exact LeO.none _ | refine LeO.ite ?_ ?_ | refine LeO.bind ?_ (fun _ => ?_)) | exact ih0 _ _ _ _ | exact ih1 _ _ _ _ _ | exact ih2 _ _ _ _ | exact ih3 _ _ _ _ | exact LeO.none _ | refine LeO.ite ?_ ?_ | refine LeO.bind ?_ (fun _ => ?_)
set_option maxHeartbeats 8000000 in
set_option maxRecDepth 100000 in
theorem trystref08_next.calls (k : Nat) (a0 : ByteArray) (a1 : Int) (r : Int) (w : World) (hG : GG w) (h : trystref08_next.f k a0 a1 = some r) :
  Calls Tryz.prog 69 #[.string a0, .int .i64 a1] w fun e w' => e = .returned (.int .i64 r) ∧ Drawn0 w w' := by
 have H : (if 0 ≤ a1 then (if a1 < (a0.size : Int) then (if (bt a0 a1) < 128 then (some 1) else (if (bt a0 a1) ≥ 194 then (trystref08_next.j0 k a0 a1 (bt a0 a1) (decide ((bt a0 a1) < 224))) else (trystref08_next.j0 k a0 a1 (bt a0 a1) false))) else (none)) else (none)) = some r := h; clear h; replace H := zI H; rcases H with ⟨c3, H⟩ | ⟨c3, H⟩
 ·have c3b0 : decide (0 ≤ a1) = true := decide_eq_true c3; clear c3; replace H := zJd H; obtain ⟨-, c4b0, H⟩ := H; have HC6 := Aside0.mk H; clear H; have p5 := zP (0 ≤ (a1 : Int)); have q5 := zP (a1 < (a0.size : Int)); have hx5 := bt_at a0 a1
  go_enter Tryz.func69, Tryz.ntmps69
  go_upto_block 0 with (fail)
  go_cut [6] (fun v6 wc => ∃ (kq : Nat) (x6_5 : Int), v6 = .int .i64 x6_5 ∧ Aside0 (trystref08_next.j2 kq a0 a1 (bt a0 a1) x6_5 = some r) ∧ Aside0 (kq ≤ k) ∧ Drawn0 w wc)
  case first =>
   have H := HC6.out; clear HC6; replace H := zId H; rcases H with ⟨-, c7b0, H⟩ | ⟨-, c7b0, H⟩
   ·(first | rw [c7b0] | (simp only [i64_w, i32_w]; rw [c7b0]) | skip)
    obtain rfl := Option.some.inj H; go_wp2; go_ret; exact ⟨zS, zD⟩
   ·(first | rw [c7b0] | (simp only [i64_w, i32_w]; rw [c7b0]) | skip)
    have HC8 := Aside0.mk H; clear H
    go_upto_region 6 with (fail)
    go_cut [15] (fun v15 wc => ∃ (kq : Nat) (x15_7 : Bool), v15 = .bool x15_7 ∧ Aside0 (trystref08_next.j0 kq a0 a1 (bt a0 a1) x15_7 = some r) ∧ Aside0 (kq ≤ k) ∧ Drawn0 w wc)
    case first =>
     have H := HC8.out; clear HC8; replace H := zI H; rcases H with ⟨c9, H⟩ | ⟨c9, H⟩
     ·have c9b0 : decide (194 ≤ (bt a0 a1)) = true := decide_eq_true c9; clear c9
      (first | rw [c9b0] | (simp only [i64_w, i32_w]; rw [c9b0]) | skip)
      have H' := Aside0.mk H; clear H; go_wp2
      go_meet
      case rel => exact ⟨_, (decide ((bt a0 a1) < 224)), zS, H', ⟨by first | omega | exact Nat.le_refl _⟩, zD⟩
     ·have c9b0 : decide (194 ≤ (bt a0 a1)) = false := decide_eq_false c9; clear c9
      (first | rw [c9b0] | (simp only [i64_w, i32_w]; rw [c9b0]) | skip)
      have H' := Aside0.mk H; clear H; go_wp2
      go_meet
      case rel => exact ⟨_, (false), zS, H', ⟨by first | omega | exact Nat.le_refl _⟩, zD⟩
    case rest =>
     clear HC8; clear c3b0 c4b0 p5 q5 hx5 c7b0; obtain ⟨kq, x15_7, rfl, HA, HJ7, ⟨mc7, rfl⟩⟩ := hcut
     cases kq with
     | zero => exact absurd HA.out (by simp [trystref08_next.j0])
     | succ kj7 =>
      have H := HA.out; clear HA; simp only [trystref08_next.j0] at H; replace H := zIb H; rcases H with ⟨rfl, H⟩ | ⟨rfl, H⟩
      ·have H' := Aside0.mk H; clear H; go_wp2
       go_meet
       case rel => exact ⟨_, (2), zS, H', ⟨by have := HJ7.out; first | omega | exact Nat.le_refl _⟩, zD⟩
      ·have HC11 := Aside0.mk H; clear H
       go_upto_region 8 with (fail)
       go_cut [22] (fun v22 wc => ∃ (kq : Nat) (x22_10 : Bool), v22 = .bool x22_10 ∧ Aside0 (trystref08_next.j1 kq a0 a1 (bt a0 a1) x22_10 = some r) ∧ Aside0 (kq ≤ kj7) ∧ Drawn0 w wc)
       case first =>
        have H := HC11.out; clear HC11; replace H := zI H; rcases H with ⟨c12, H⟩ | ⟨c12, H⟩
        ·have c12b0 : decide (224 ≤ (bt a0 a1)) = true := decide_eq_true c12; clear c12
         (first | rw [c12b0] | (simp only [i64_w, i32_w]; rw [c12b0]) | skip)
         have H' := Aside0.mk H; clear H; go_wp2
         go_meet
         case rel => exact ⟨_, (decide ((bt a0 a1) < 240)), zS, H', ⟨by have := HJ7.out; first | omega | exact Nat.le_refl _⟩, zD⟩
        ·have c12b0 : decide (224 ≤ (bt a0 a1)) = false := decide_eq_false c12; clear c12
         (first | rw [c12b0] | (simp only [i64_w, i32_w]; rw [c12b0]) | skip)
         have H' := Aside0.mk H; clear H; go_wp2
         go_meet
         case rel => exact ⟨_, (false), zS, H', ⟨by have := HJ7.out; first | omega | exact Nat.le_refl _⟩, zD⟩
       case rest =>
        clear HC11; obtain ⟨kq, x22_10, rfl, HA, HJ10, ⟨mc10, rfl⟩⟩ := hcut
        cases kq with
        | zero => exact absurd HA.out (by simp [trystref08_next.j1])
        | succ kj10 =>
         have H := HA.out; clear HA; simp only [trystref08_next.j1] at H; replace H := zIb H; rcases H with ⟨rfl, H⟩ | ⟨rfl, H⟩
         ·have H' := Aside0.mk H; clear H; go_wp2
          go_meet
          case rel => exact ⟨_, (3), zS, H', ⟨by have := HJ7.out; have := HJ10.out; first | omega | exact Nat.le_refl _⟩, zD⟩
         ·replace H := zI H; rcases H with ⟨c14, H⟩ | ⟨c14, H⟩
          ·have c14b0 : decide (240 ≤ (bt a0 a1)) = true := decide_eq_true c14; clear c14; replace H := zId H; rcases H with ⟨-, c15b0, H⟩ | ⟨-, c15b0, H⟩
           ·have H' := Aside0.mk H; clear H; go_wp2
            go_meet
            case rel => exact ⟨_, (4), zS, H', ⟨by have := HJ7.out; have := HJ10.out; first | omega | exact Nat.le_refl _⟩, zD⟩
           ·obtain rfl := Option.some.inj H; go_wp2; go_ret; exact ⟨zS, zD⟩
          ·have c14b0 : decide (240 ≤ (bt a0 a1)) = false := decide_eq_false c14; clear c14; obtain rfl := Option.some.inj H; go_wp2; go_ret; exact ⟨zS, zD⟩
  case rest =>
   clear HC6; clear c3b0 c4b0 p5 q5 hx5; obtain ⟨kq, x6_5, rfl, HA, HJ5, ⟨mc5, rfl⟩⟩ := hcut
   cases kq with
   | zero => exact absurd HA.out (by simp [trystref08_next.j2])
   | succ kj5 =>
    have H := HA.out; clear HA; simp only [trystref08_next.j2] at H; replace H := zI H; rcases H with ⟨c16, H⟩ | ⟨c16, H⟩
    ·have c16b0 : decide ((a0.size : Int) < (wrap64 (a1 + x6_5))) = true := decide_eq_true c16; clear c16; obtain rfl := Option.some.inj H; go_wp2; go_ret; exact ⟨zS, zD⟩
    ·have c16b0 : decide ((a0.size : Int) < (wrap64 (a1 + x6_5))) = false := decide_eq_false c16; clear c16; have H' := Aside0.mk H; clear H; go_wp2
     go_loopg [7] kj5 (fun kq v7 w' => ∃ (x7_2 : Int), v7 = .int .i64 x7_2 ∧ Aside0 (trystref08_next.l0 kq a0 a1 (bt a0 a1) x6_5 x7_2 = some r) ∧ Aside0 (kq ≤ kj5) ∧ Drawn0 w w')
     case atStart => exact ⟨(1), zS, H', ⟨Nat.le_refl _⟩, zD⟩
     case round =>
      clear H'; clear c16b0; obtain ⟨x7_2, rfl, HA, HK2, ⟨m2, rfl⟩⟩ := hrel
      cases gk with
      | zero => exact absurd HA.out (by simp [trystref08_next.l0])
      | succ k2 =>
       have H := HA.out; clear HA; simp only [trystref08_next.l0] at H; replace H := zId H; rcases H with ⟨-, c17b0, H⟩ | ⟨-, c17b0, H⟩
       ·obtain ⟨ji18, hji18⟩ : ∃ j_ : Int, (wrap64 (a1 + x7_2)) = j_ := ⟨_, rfl⟩; replace H : (if 0 ≤ (ji18) then (if (ji18) < (a0.size : Int) then (if (bt a0 (ji18)) < 128 then (some 0) else (if (bt a0 (ji18)) > 191 then (some 0) else (trystref08_next.l0 k2 a0 a1 (bt a0 a1) x6_5 (wrap64 (x7_2 + 1))))) else (none)) else (none)) = some r := by first | (rw [hji18] at H; exact H) | (simp only [hji18] at H ⊢; exact H)
        have hji18w : (IntKind.i64.wrap (a1 + x7_2)) = ji18 := (i64_w _).trans hji18; replace H := zJd H; obtain ⟨-, c19b0, H⟩ := H; replace H := zJd H; obtain ⟨-, c20b0, H⟩ := H; replace H := zId H; rcases H with ⟨-, c22b0, H⟩ | ⟨-, c22b0, H⟩
        ·obtain rfl := Option.some.inj H; have p21 := zP (0 ≤ ((ji18) : Int)); have q21 := zP ((ji18) < (a0.size : Int)); have hx21 := bt_at a0 (ji18); go_wp2; go_ret; exact ⟨by first | rfl | (simp; done) | (simp only [← hji18] <;> (first | rfl | simp)) | (simp [*]; done), zD⟩
        ·replace H := zI H; rcases H with ⟨c24, H⟩ | ⟨c24, H⟩
         ·have c24b0 : decide (191 < (bt a0 (ji18))) = true := decide_eq_true c24; clear c24; obtain rfl := Option.some.inj H; have p21 := zP (0 ≤ ((ji18) : Int)); have q21 := zP ((ji18) < (a0.size : Int)); have hx21 := bt_at a0 (ji18); have p23 := zP (0 ≤ ((ji18) : Int)); have q23 := zP ((ji18) < (a0.size : Int)); have hx23 := bt_at a0 (ji18); go_wp2; go_ret; exact ⟨by first | rfl | (simp; done) | (simp only [← hji18] <;> (first | rfl | simp)) | (simp [*]; done), zD⟩
         ·have c24b0 : decide (191 < (bt a0 (ji18))) = false := decide_eq_false c24; clear c24; have H' := Aside0.mk H; clear H; have p21 := zP (0 ≤ ((ji18) : Int)); have q21 := zP ((ji18) < (a0.size : Int)); have hx21 := bt_at a0 (ji18); have p23 := zP (0 ≤ ((ji18) : Int)); have q23 := zP ((ji18) < (a0.size : Int)); have hx23 := bt_at a0 (ji18); go_wp2
          go_roundg k2
          case measure => have := HJ5.out; have := HK2.out; omega
          case rel => exact ⟨(wrap64 (x7_2 + 1)), zS, H', ⟨by have := HJ5.out; have := HK2.out; omega⟩, zD⟩
       ·obtain ⟨ji25, hji25⟩ : ∃ j_ : Int, (wrap64 (a1 + 1)) = j_ := ⟨_, rfl⟩
        replace H : (if 0 ≤ (ji25) then (if (ji25) < (a0.size : Int) then (if (bt a0 a1) = 224 then (if (bt a0 (ji25)) < 160 then (some 0) else (if (bt a0 a1) = 237 then (if (bt a0 (ji25)) > 159 then (some 0) else (if (bt a0 a1) = 240 then (if (bt a0 (ji25)) < 144 then (some 0) else (if (bt a0 a1) = 244 then (if (bt a0 (ji25)) > 143 then (some 0) else (some x6_5)) else (some x6_5))) else (if (bt a0 a1) = 244 then (if (bt a0 (ji25)) > 143 then (some 0) else (some x6_5)) else (some x6_5)))) else (if (bt a0 a1) = 240 then (if (bt a0 (ji25)) < 144 then (some 0) else (if (bt a0 a1) = 244 then (if (bt a0 (ji25)) > 143 then (some 0) else (some x6_5)) else (some x6_5))) else (if (bt a0 a1) = 244 then (if (bt a0 (ji25)) > 143 then (some 0) else (some x6_5)) else (some x6_5))))) else (if (bt a0 a1) = 237 then (if (bt a0 (ji25)) > 159 then (some 0) else (if (bt a0 a1) = 240 then (if (bt a0 (ji25)) < 144 then (some 0) else (if (bt a0 a1) = 244 then (if (bt a0 (ji25)) > 143 then (some 0) else (some x6_5)) else (some x6_5))) else (if (bt a0 a1) = 244 then (if (bt a0 (ji25)) > 143 then (some 0) else (some x6_5)) else (some x6_5)))) else (if (bt a0 a1) = 240 then (if (bt a0 (ji25)) < 144 then (some 0) else (if (bt a0 a1) = 244 then (if (bt a0 (ji25)) > 143 then (some 0) else (some x6_5)) else (some x6_5))) else (if (bt a0 a1) = 244 then (if (bt a0 (ji25)) > 143 then (some 0) else (some x6_5)) else (some x6_5))))) else (none)) else (none)) = some r := by first | (rw [hji25] at H; exact H) | (simp only [hji25] at H ⊢; exact H)
        have hji25w : (IntKind.i64.wrap (a1 + 1)) = ji25 := (i64_w _).trans hji25; replace H := zJd H; obtain ⟨-, c26b0, H⟩ := H; replace H := zJd H; obtain ⟨-, c27b0, H⟩ := H; replace H := zIe H; rcases H with ⟨-, c29b0, c29b1, H⟩ | ⟨c29, c29b0, c29b1, H⟩
        ·replace H := zId H; rcases H with ⟨-, c30b0, H⟩ | ⟨-, c30b0, H⟩
         ·obtain rfl := Option.some.inj H; have p28 := zP (0 ≤ ((ji25) : Int)); have q28 := zP ((ji25) < (a0.size : Int)); have hx28 := bt_at a0 (ji25); go_wp2; go_ret; exact ⟨by first | rfl | (simp; done) | (simp only [← hji25] <;> (first | rfl | simp)) | (simp [*]; done), zD⟩
         ·replace H := zIe H; rcases H with ⟨-, c31b0, c31b1, H⟩ | ⟨c31, c31b0, c31b1, H⟩
          ·replace H := zI H; rcases H with ⟨c32, H⟩ | ⟨c32, H⟩
           ·have c32b0 : decide (159 < (bt a0 (ji25))) = true := decide_eq_true c32; clear c32; obtain rfl := Option.some.inj H; have p28 := zP (0 ≤ ((ji25) : Int)); have q28 := zP ((ji25) < (a0.size : Int)); have hx28 := bt_at a0 (ji25); go_wp2; go_ret; exact ⟨by first | rfl | (simp; done) | (simp only [← hji25] <;> (first | rfl | simp)) | (simp [*]; done), zD⟩
           ·have c32b0 : decide (159 < (bt a0 (ji25))) = false := decide_eq_false c32; clear c32; replace H := zIe H; rcases H with ⟨-, c33b0, c33b1, H⟩ | ⟨c33, c33b0, c33b1, H⟩
            ·replace H := zId H; rcases H with ⟨-, c34b0, H⟩ | ⟨-, c34b0, H⟩
             ·obtain rfl := Option.some.inj H; have p28 := zP (0 ≤ ((ji25) : Int)); have q28 := zP ((ji25) < (a0.size : Int)); have hx28 := bt_at a0 (ji25); go_wp2; go_ret; exact ⟨by first | rfl | (simp; done) | (simp only [← hji25] <;> (first | rfl | simp)) | (simp [*]; done), zD⟩
             ·replace H := zIe H; rcases H with ⟨-, c35b0, c35b1, H⟩ | ⟨c35, c35b0, c35b1, H⟩
              ·replace H := zI H; rcases H with ⟨c36, H⟩ | ⟨c36, H⟩
               ·have c36b0 : decide (143 < (bt a0 (ji25))) = true := decide_eq_true c36; clear c36; obtain rfl := Option.some.inj H; have p28 := zP (0 ≤ ((ji25) : Int)); have q28 := zP ((ji25) < (a0.size : Int)); have hx28 := bt_at a0 (ji25); go_wp2; go_ret; exact ⟨by first | rfl | (simp; done) | (simp only [← hji25] <;> (first | rfl | simp)) | (simp [*]; done), zD⟩
               ·have c36b0 : decide (143 < (bt a0 (ji25))) = false := decide_eq_false c36; clear c36; obtain rfl := Option.some.inj H; have p28 := zP (0 ≤ ((ji25) : Int)); have q28 := zP ((ji25) < (a0.size : Int)); have hx28 := bt_at a0 (ji25); go_wp2; go_ret; exact ⟨by first | rfl | (simp; done) | (simp only [← hji25] <;> (first | rfl | simp)) | (simp [*]; done), zD⟩
              ·obtain rfl := Option.some.inj H; have p28 := zP (0 ≤ ((ji25) : Int)); have q28 := zP ((ji25) < (a0.size : Int)); have hx28 := bt_at a0 (ji25); go_wp2; go_ret; exact ⟨by first | rfl | (simp; done) | (simp only [← hji25] <;> (first | rfl | simp)) | (simp [*]; done), zD⟩
            ·replace H := zIe H; rcases H with ⟨-, c37b0, c37b1, H⟩ | ⟨c37, c37b0, c37b1, H⟩
             ·replace H := zI H; rcases H with ⟨c38, H⟩ | ⟨c38, H⟩
              ·have c38b0 : decide (143 < (bt a0 (ji25))) = true := decide_eq_true c38; clear c38; obtain rfl := Option.some.inj H; have p28 := zP (0 ≤ ((ji25) : Int)); have q28 := zP ((ji25) < (a0.size : Int)); have hx28 := bt_at a0 (ji25); go_wp2; go_ret; exact ⟨by first | rfl | (simp; done) | (simp only [← hji25] <;> (first | rfl | simp)) | (simp [*]; done), zD⟩
              ·have c38b0 : decide (143 < (bt a0 (ji25))) = false := decide_eq_false c38; clear c38; obtain rfl := Option.some.inj H; have p28 := zP (0 ≤ ((ji25) : Int)); have q28 := zP ((ji25) < (a0.size : Int)); have hx28 := bt_at a0 (ji25); go_wp2; go_ret; exact ⟨by first | rfl | (simp; done) | (simp only [← hji25] <;> (first | rfl | simp)) | (simp [*]; done), zD⟩
             ·obtain rfl := Option.some.inj H; have p28 := zP (0 ≤ ((ji25) : Int)); have q28 := zP ((ji25) < (a0.size : Int)); have hx28 := bt_at a0 (ji25); go_wp2; go_ret; exact ⟨by first | rfl | (simp; done) | (simp only [← hji25] <;> (first | rfl | simp)) | (simp [*]; done), zD⟩
          ·replace H := zIe H; rcases H with ⟨-, c39b0, c39b1, H⟩ | ⟨c39, c39b0, c39b1, H⟩
           ·replace H := zId H; rcases H with ⟨-, c40b0, H⟩ | ⟨-, c40b0, H⟩
            ·obtain rfl := Option.some.inj H; have p28 := zP (0 ≤ ((ji25) : Int)); have q28 := zP ((ji25) < (a0.size : Int)); have hx28 := bt_at a0 (ji25); go_wp2; go_ret; exact ⟨by first | rfl | (simp; done) | (simp only [← hji25] <;> (first | rfl | simp)) | (simp [*]; done), zD⟩
            ·replace H := zIe H; rcases H with ⟨-, c41b0, c41b1, H⟩ | ⟨c41, c41b0, c41b1, H⟩
             ·replace H := zI H; rcases H with ⟨c42, H⟩ | ⟨c42, H⟩
              ·have c42b0 : decide (143 < (bt a0 (ji25))) = true := decide_eq_true c42; clear c42; obtain rfl := Option.some.inj H; have p28 := zP (0 ≤ ((ji25) : Int)); have q28 := zP ((ji25) < (a0.size : Int)); have hx28 := bt_at a0 (ji25); go_wp2; go_ret; exact ⟨by first | rfl | (simp; done) | (simp only [← hji25] <;> (first | rfl | simp)) | (simp [*]; done), zD⟩
              ·have c42b0 : decide (143 < (bt a0 (ji25))) = false := decide_eq_false c42; clear c42; obtain rfl := Option.some.inj H; have p28 := zP (0 ≤ ((ji25) : Int)); have q28 := zP ((ji25) < (a0.size : Int)); have hx28 := bt_at a0 (ji25); go_wp2; go_ret; exact ⟨by first | rfl | (simp; done) | (simp only [← hji25] <;> (first | rfl | simp)) | (simp [*]; done), zD⟩
             ·obtain rfl := Option.some.inj H; have p28 := zP (0 ≤ ((ji25) : Int)); have q28 := zP ((ji25) < (a0.size : Int)); have hx28 := bt_at a0 (ji25); go_wp2; go_ret; exact ⟨by first | rfl | (simp; done) | (simp only [← hji25] <;> (first | rfl | simp)) | (simp [*]; done), zD⟩
           ·replace H := zIe H; rcases H with ⟨-, c43b0, c43b1, H⟩ | ⟨c43, c43b0, c43b1, H⟩
            ·replace H := zI H; rcases H with ⟨c44, H⟩ | ⟨c44, H⟩
             ·have c44b0 : decide (143 < (bt a0 (ji25))) = true := decide_eq_true c44; clear c44; obtain rfl := Option.some.inj H; have p28 := zP (0 ≤ ((ji25) : Int)); have q28 := zP ((ji25) < (a0.size : Int)); have hx28 := bt_at a0 (ji25); go_wp2; go_ret; exact ⟨by first | rfl | (simp; done) | (simp only [← hji25] <;> (first | rfl | simp)) | (simp [*]; done), zD⟩
             ·have c44b0 : decide (143 < (bt a0 (ji25))) = false := decide_eq_false c44; clear c44; obtain rfl := Option.some.inj H; have p28 := zP (0 ≤ ((ji25) : Int)); have q28 := zP ((ji25) < (a0.size : Int)); have hx28 := bt_at a0 (ji25); go_wp2; go_ret; exact ⟨by first | rfl | (simp; done) | (simp only [← hji25] <;> (first | rfl | simp)) | (simp [*]; done), zD⟩
            ·obtain rfl := Option.some.inj H; have p28 := zP (0 ≤ ((ji25) : Int)); have q28 := zP ((ji25) < (a0.size : Int)); have hx28 := bt_at a0 (ji25); go_wp2; go_ret; exact ⟨by first | rfl | (simp; done) | (simp only [← hji25] <;> (first | rfl | simp)) | (simp [*]; done), zD⟩
        ·replace H := zIe H; rcases H with ⟨-, c45b0, c45b1, H⟩ | ⟨c45, c45b0, c45b1, H⟩
         ·replace H := zI H; rcases H with ⟨c46, H⟩ | ⟨c46, H⟩
          ·have c46b0 : decide (159 < (bt a0 (ji25))) = true := decide_eq_true c46; clear c46; obtain rfl := Option.some.inj H; have p28 := zP (0 ≤ ((ji25) : Int)); have q28 := zP ((ji25) < (a0.size : Int)); have hx28 := bt_at a0 (ji25); go_wp2; go_ret; exact ⟨by first | rfl | (simp; done) | (simp only [← hji25] <;> (first | rfl | simp)) | (simp [*]; done), zD⟩
          ·have c46b0 : decide (159 < (bt a0 (ji25))) = false := decide_eq_false c46; clear c46; replace H := zIe H; rcases H with ⟨-, c47b0, c47b1, H⟩ | ⟨c47, c47b0, c47b1, H⟩
           ·replace H := zId H; rcases H with ⟨-, c48b0, H⟩ | ⟨-, c48b0, H⟩
            ·obtain rfl := Option.some.inj H; have p28 := zP (0 ≤ ((ji25) : Int)); have q28 := zP ((ji25) < (a0.size : Int)); have hx28 := bt_at a0 (ji25); go_wp2; go_ret; exact ⟨by first | rfl | (simp; done) | (simp only [← hji25] <;> (first | rfl | simp)) | (simp [*]; done), zD⟩
            ·replace H := zIe H; rcases H with ⟨-, c49b0, c49b1, H⟩ | ⟨c49, c49b0, c49b1, H⟩
             ·replace H := zI H; rcases H with ⟨c50, H⟩ | ⟨c50, H⟩
              ·have c50b0 : decide (143 < (bt a0 (ji25))) = true := decide_eq_true c50; clear c50; obtain rfl := Option.some.inj H; have p28 := zP (0 ≤ ((ji25) : Int)); have q28 := zP ((ji25) < (a0.size : Int)); have hx28 := bt_at a0 (ji25); go_wp2; go_ret; exact ⟨by first | rfl | (simp; done) | (simp only [← hji25] <;> (first | rfl | simp)) | (simp [*]; done), zD⟩
              ·have c50b0 : decide (143 < (bt a0 (ji25))) = false := decide_eq_false c50; clear c50; obtain rfl := Option.some.inj H; have p28 := zP (0 ≤ ((ji25) : Int)); have q28 := zP ((ji25) < (a0.size : Int)); have hx28 := bt_at a0 (ji25); go_wp2; go_ret; exact ⟨by first | rfl | (simp; done) | (simp only [← hji25] <;> (first | rfl | simp)) | (simp [*]; done), zD⟩
             ·obtain rfl := Option.some.inj H; have p28 := zP (0 ≤ ((ji25) : Int)); have q28 := zP ((ji25) < (a0.size : Int)); have hx28 := bt_at a0 (ji25); go_wp2; go_ret; exact ⟨by first | rfl | (simp; done) | (simp only [← hji25] <;> (first | rfl | simp)) | (simp [*]; done), zD⟩
           ·replace H := zIe H; rcases H with ⟨-, c51b0, c51b1, H⟩ | ⟨c51, c51b0, c51b1, H⟩
            ·replace H := zI H; rcases H with ⟨c52, H⟩ | ⟨c52, H⟩
             ·have c52b0 : decide (143 < (bt a0 (ji25))) = true := decide_eq_true c52; clear c52; obtain rfl := Option.some.inj H; have p28 := zP (0 ≤ ((ji25) : Int)); have q28 := zP ((ji25) < (a0.size : Int)); have hx28 := bt_at a0 (ji25); go_wp2; go_ret; exact ⟨by first | rfl | (simp; done) | (simp only [← hji25] <;> (first | rfl | simp)) | (simp [*]; done), zD⟩
             ·have c52b0 : decide (143 < (bt a0 (ji25))) = false := decide_eq_false c52; clear c52; obtain rfl := Option.some.inj H; have p28 := zP (0 ≤ ((ji25) : Int)); have q28 := zP ((ji25) < (a0.size : Int)); have hx28 := bt_at a0 (ji25); go_wp2; go_ret; exact ⟨by first | rfl | (simp; done) | (simp only [← hji25] <;> (first | rfl | simp)) | (simp [*]; done), zD⟩
            ·obtain rfl := Option.some.inj H; have p28 := zP (0 ≤ ((ji25) : Int)); have q28 := zP ((ji25) < (a0.size : Int)); have hx28 := bt_at a0 (ji25); go_wp2; go_ret; exact ⟨by first | rfl | (simp; done) | (simp only [← hji25] <;> (first | rfl | simp)) | (simp [*]; done), zD⟩
         ·replace H := zIe H; rcases H with ⟨-, c53b0, c53b1, H⟩ | ⟨c53, c53b0, c53b1, H⟩
          ·replace H := zId H; rcases H with ⟨-, c54b0, H⟩ | ⟨-, c54b0, H⟩
           ·obtain rfl := Option.some.inj H; have p28 := zP (0 ≤ ((ji25) : Int)); have q28 := zP ((ji25) < (a0.size : Int)); have hx28 := bt_at a0 (ji25); go_wp2; go_ret; exact ⟨by first | rfl | (simp; done) | (simp only [← hji25] <;> (first | rfl | simp)) | (simp [*]; done), zD⟩
           ·replace H := zIe H; rcases H with ⟨-, c55b0, c55b1, H⟩ | ⟨c55, c55b0, c55b1, H⟩
            ·replace H := zI H; rcases H with ⟨c56, H⟩ | ⟨c56, H⟩
             ·have c56b0 : decide (143 < (bt a0 (ji25))) = true := decide_eq_true c56; clear c56; obtain rfl := Option.some.inj H; have p28 := zP (0 ≤ ((ji25) : Int)); have q28 := zP ((ji25) < (a0.size : Int)); have hx28 := bt_at a0 (ji25); go_wp2; go_ret; exact ⟨by first | rfl | (simp; done) | (simp only [← hji25] <;> (first | rfl | simp)) | (simp [*]; done), zD⟩
             ·have c56b0 : decide (143 < (bt a0 (ji25))) = false := decide_eq_false c56; clear c56; obtain rfl := Option.some.inj H; have p28 := zP (0 ≤ ((ji25) : Int)); have q28 := zP ((ji25) < (a0.size : Int)); have hx28 := bt_at a0 (ji25); go_wp2; go_ret; exact ⟨by first | rfl | (simp; done) | (simp only [← hji25] <;> (first | rfl | simp)) | (simp [*]; done), zD⟩
            ·obtain rfl := Option.some.inj H; have p28 := zP (0 ≤ ((ji25) : Int)); have q28 := zP ((ji25) < (a0.size : Int)); have hx28 := bt_at a0 (ji25); go_wp2; go_ret; exact ⟨by first | rfl | (simp; done) | (simp only [← hji25] <;> (first | rfl | simp)) | (simp [*]; done), zD⟩
          ·replace H := zIe H; rcases H with ⟨-, c57b0, c57b1, H⟩ | ⟨c57, c57b0, c57b1, H⟩
           ·replace H := zI H; rcases H with ⟨c58, H⟩ | ⟨c58, H⟩
            ·have c58b0 : decide (143 < (bt a0 (ji25))) = true := decide_eq_true c58; clear c58; obtain rfl := Option.some.inj H; have p28 := zP (0 ≤ ((ji25) : Int)); have q28 := zP ((ji25) < (a0.size : Int)); have hx28 := bt_at a0 (ji25); go_wp2; go_ret; exact ⟨by first | rfl | (simp; done) | (simp only [← hji25] <;> (first | rfl | simp)) | (simp [*]; done), zD⟩
            ·have c58b0 : decide (143 < (bt a0 (ji25))) = false := decide_eq_false c58; clear c58; obtain rfl := Option.some.inj H; have p28 := zP (0 ≤ ((ji25) : Int)); have q28 := zP ((ji25) < (a0.size : Int)); have hx28 := bt_at a0 (ji25); go_wp2; go_ret; exact ⟨by first | rfl | (simp; done) | (simp only [← hji25] <;> (first | rfl | simp)) | (simp [*]; done), zD⟩
           ·obtain rfl := Option.some.inj H; have p28 := zP (0 ≤ ((ji25) : Int)); have q28 := zP ((ji25) < (a0.size : Int)); have hx28 := bt_at a0 (ji25); go_wp2; go_ret; exact ⟨by first | rfl | (simp; done) | (simp only [← hji25] <;> (first | rfl | simp)) | (simp [*]; done), zD⟩
 ·exact zH H
end Go.Proofs.YtdojmdbaiddkgaaGreatDoor.Print
end
section
namespace Go.Proofs.YtdojmdbaiddkgaaGreatDoor.Print
open Go.RowKit Go.Proofs.YtdojmdbaiddkgaaGreatDoorW.PrintWords Go.Proofs.YtdojmdbaiddkgaaGreatDoorW.PrintLast
set_option linter.unusedVariables false
set_option linter.unusedSimpArgs false
def trystref08_UTF.l0 : Nat → ByteArray → Int → Option (Bool)
 | 0, _, _ => none
 | k + 1, x0, x3 => if x3 < (x0.size : Int) then ((trystref08_next.f k x0 x3).bind fun t256 => (if t256 = 0 then (some false) else (trystref08_UTF.l0 k x0 (wrap64 (x3 + t256))))) else (some true)
def trystref08_UTF.f (k : Nat) (a0 : ByteArray) : Option (Bool) := trystref08_UTF.l0 k a0 0
set_option maxHeartbeats 8000000 in
set_option maxRecDepth 100000 in
theorem trystref08_UTF.calls (k : Nat) (a0 : ByteArray) (r : Bool) (w : World) (hG : GG w) (h : trystref08_UTF.f k a0 = some r) :
  Calls Tryz.prog 89 #[.string a0] w fun e w' => e = .returned (.bool r) ∧ Drawn0 w w' := by
 have H : (trystref08_UTF.l0 k a0 0) = some r := h; clear h; have H' := Aside0.mk H; clear H
 go_enter Tryz.func89, Tryz.ntmps89
 go_wp2
 go_loopg [3] k (fun kq v3 w' => ∃ (x3_1 : Int), v3 = .int .i64 x3_1 ∧ Aside0 (trystref08_UTF.l0 kq a0 x3_1 = some r) ∧ Aside0 (kq ≤ k) ∧ Drawn0 w w')
 case atStart => exact ⟨(0), zS, H', ⟨Nat.le_refl _⟩, zD⟩
 case round =>
  clear H'; obtain ⟨x3_1, rfl, HA, HK1, ⟨m1, rfl⟩⟩ := hrel
  cases gk with
  | zero => exact absurd HA.out (by simp [trystref08_UTF.l0])
  | succ k1 =>
   have H := HA.out; clear HA; simp only [trystref08_UTF.l0] at H; replace H := zId H; rcases H with ⟨-, c2b0, H⟩ | ⟨-, c2b0, H⟩
   ·replace H := zO H; obtain ⟨t256, A3, H⟩ := H; replace H := zIe H; rcases H with ⟨-, c4b0, c4b1, H⟩ | ⟨c4, c4b0, c4b1, H⟩
    ·obtain rfl := Option.some.inj H
     go_wp2_with (first | ((with_reducible refine gate_callee (f := 69) rfl ?_); refine zq 11 Tryz.func69 #[.string a0, .int .i64 x3_1] (trystref08_next.calls k1 a0 x3_1 t256 _ zG2 A3.out) (fun nd => ?_)))
     go_ret; exact ⟨zS, zD⟩
    ·have H' := Aside0.mk H; clear H
     go_wp2_with (first | ((with_reducible refine gate_callee (f := 69) rfl ?_); refine zq 11 Tryz.func69 #[.string a0, .int .i64 x3_1] (trystref08_next.calls k1 a0 x3_1 t256 _ zG2 A3.out) (fun nd => ?_)))
     go_roundg k1
     case measure => have := HK1.out; omega
     case rel => exact ⟨(wrap64 (x3_1 + t256)), zS, H', ⟨by have := HK1.out; omega⟩, zD⟩
   ·obtain rfl := Option.some.inj H; go_wp2; go_ret; exact ⟨zS, zD⟩
def trystref08_Clean.l0 : Nat → ByteArray → Bool → Int → Int → Option (Int)
 | 0, _, _, _, _ => none
 | k + 1, x0, x1, x11, x12 => if x12 < x11 then (if 0 ≤ x12 then (if x12 < (x0.size : Int) then (if (bt x0 x12) = 127 then (some 7) else (if (bt x0 x12) < 32 then (if (bt x0 x12) = 9 then (trystref08_Clean.l0 k x0 x1 x11 (wrap64 (x12 + 1))) else (if x1 = true then (if ((bt x0 x12) = 10) then (trystref08_Clean.l0 k x0 x1 x11 (wrap64 (x12 + 1))) else (some 7)) else (some 7))) else (trystref08_Clean.l0 k x0 x1 x11 (wrap64 (x12 + 1))))) else (none)) else (none)) else (some 0)
def trystref08_Clean.f (k : Nat) (a0 : ByteArray) (a1 : Bool) : Option (Int) := (trystref08_UTF.f k a0).bind fun t257 => (if t257 = true then (trystref08_Clean.l0 k a0 a1 (a0.size : Int) 0) else (some 3))
set_option maxHeartbeats 8000000 in
set_option maxRecDepth 100000 in
theorem trystref08_Clean.calls (k : Nat) (a0 : ByteArray) (a1 : Bool) (r : Int) (w : World) (hG : GG w) (h : trystref08_Clean.f k a0 a1 = some r) :
  Calls Tryz.prog 74 #[.string a0, .bool a1] w fun e w' => e = .returned (.int .i64 r) ∧ Drawn0 w w' := by
 have H : ((trystref08_UTF.f k a0).bind fun t257 => (if t257 = true then (trystref08_Clean.l0 k a0 a1 (a0.size : Int) 0) else (some 3))) = some r := h; clear h; replace H := zO H; obtain ⟨t257, A3, H⟩ := H; replace H := zIb H; rcases H with ⟨rfl, H⟩ | ⟨rfl, H⟩
 ·have H' := Aside0.mk H; clear H
  go_enter Tryz.func74, Tryz.ntmps74
  go_wp2_with (first | ((with_reducible refine gate_callee (f := 89) rfl ?_); refine zq 8 Tryz.func89 #[.string a0] (trystref08_UTF.calls k a0 true _ zG2 A3.out) (fun nd => ?_)))
  go_loopg [12] k (fun kq v12 w' => ∃ (x12_1 : Int), v12 = .int .i64 x12_1 ∧ Aside0 (trystref08_Clean.l0 kq a0 a1 (a0.size : Int) x12_1 = some r) ∧ Aside0 (kq ≤ k) ∧ Drawn0 w w')
  case atStart => exact ⟨(0), zS, H', ⟨Nat.le_refl _⟩, zD⟩
  case round =>
   clear H'; obtain ⟨x12_1, rfl, HA, HK1, ⟨m1, rfl⟩⟩ := hrel
   cases gk with
   | zero => exact absurd HA.out (by simp [trystref08_Clean.l0])
   | succ k1 =>
    have H := HA.out; clear HA; simp only [trystref08_Clean.l0] at H; replace H := zId H; rcases H with ⟨-, c5b0, H⟩ | ⟨-, c5b0, H⟩
    ·replace H := zJd H; obtain ⟨-, c6b0, H⟩ := H; replace H := zJd H; obtain ⟨-, c7b0, H⟩ := H; replace H := zIe H; rcases H with ⟨-, c9b0, c9b1, H⟩ | ⟨c9, c9b0, c9b1, H⟩
     ·obtain rfl := Option.some.inj H; have p8 := zP (0 ≤ (x12_1 : Int)); have q8 := zP (x12_1 < (a0.size : Int)); have hx8 := bt_at a0 x12_1; go_wp2; go_ret; exact ⟨zS, zD⟩
     ·replace H := zId H; rcases H with ⟨-, c10b0, H⟩ | ⟨-, c10b0, H⟩
      ·replace H := zIe H; rcases H with ⟨-, c11b0, c11b1, H⟩ | ⟨c11, c11b0, c11b1, H⟩
       ·have H' := Aside0.mk H; clear H; have p8 := zP (0 ≤ (x12_1 : Int)); have q8 := zP (x12_1 < (a0.size : Int)); have hx8 := bt_at a0 x12_1; go_wp2
        go_roundg k1
        case measure => have := HK1.out; omega
        case rel => exact ⟨(wrap64 (x12_1 + 1)), zS, H', ⟨by have := HK1.out; omega⟩, zD⟩
       ·replace H := zIb H; rcases H with ⟨rfl, H⟩ | ⟨rfl, H⟩
        ·replace H := zIe H; rcases H with ⟨-, c13b0, c13b1, H⟩ | ⟨c13, c13b0, c13b1, H⟩
         ·have H' := Aside0.mk H; clear H; have p8 := zP (0 ≤ (x12_1 : Int)); have q8 := zP (x12_1 < (a0.size : Int)); have hx8 := bt_at a0 x12_1; go_wp2
          go_roundg k1
          case measure => have := HK1.out; omega
          case rel => exact ⟨(wrap64 (x12_1 + 1)), zS, H', ⟨by have := HK1.out; omega⟩, zD⟩
         ·obtain rfl := Option.some.inj H; have p8 := zP (0 ≤ (x12_1 : Int)); have q8 := zP (x12_1 < (a0.size : Int)); have hx8 := bt_at a0 x12_1; go_wp2; go_ret; exact ⟨zS, zD⟩
        ·obtain rfl := Option.some.inj H; have p8 := zP (0 ≤ (x12_1 : Int)); have q8 := zP (x12_1 < (a0.size : Int)); have hx8 := bt_at a0 x12_1; go_wp2; go_ret; exact ⟨zS, zD⟩
      ·have H' := Aside0.mk H; clear H; have p8 := zP (0 ≤ (x12_1 : Int)); have q8 := zP (x12_1 < (a0.size : Int)); have hx8 := bt_at a0 x12_1; go_wp2
       go_roundg k1
       case measure => have := HK1.out; omega
       case rel => exact ⟨(wrap64 (x12_1 + 1)), zS, H', ⟨by have := HK1.out; omega⟩, zD⟩
    ·obtain rfl := Option.some.inj H; go_wp2; go_ret; exact ⟨zS, zD⟩
 ·obtain rfl := Option.some.inj H
  go_enter Tryz.func74, Tryz.ntmps74
  go_wp2_with (first | ((with_reducible refine gate_callee (f := 89) rfl ?_); refine zq 8 Tryz.func89 #[.string a0] (trystref08_UTF.calls k a0 false _ zG2 A3.out) (fun nd => ?_)))
  go_ret; exact ⟨zS, zD⟩
end Go.Proofs.YtdojmdbaiddkgaaGreatDoor.Print
end
section
set_option linter.unusedVariables false
set_option linter.unusedSimpArgs false
namespace Go.Proofs.YtdojmdbaiddkgaaGreatDoor.Pure
open Go.RowKit Go.Proofs.YtdojmdbaiddkgaaGreatDoor.Print Go.Proofs.YtdojmdbaiddkgaaGreatDoorW.PrintWords Go.Proofs.YtdojmdbaiddkgaaGreatDoorW.PrintLast
theorem bt_nat (s : ByteArray) (m : Nat) : bt s (m : Int) = ((s.data.toList.getD m 0).toNat : Int) := by
  unfold bt
  by_cases h : m < s.size
  · rw [dif_pos (by simpa using h)]
    have : s.data.toList.getD m 0 = s[m] := by
      rw [List.getD_eq_getElem?_getD, List.getElem?_eq_getElem (by simpa using h)]; rfl
    rw [this]; rfl
  · rw [dif_neg (by simpa using h)]
    rw [List.getD_eq_getElem?_getD, List.getElem?_eq_none (by simp; omega)]; rfl
theorem wrap_nat (m : Nat) (c : Nat) (h : m + c ≤ 140737488355328) : wrap64 ((m : Int) + (c : Int)) = ((m + c : Nat) : Int) := by
  unfold wrap64; omega
theorem wrap_one (m : Nat) (h : m ≤ 140737488355327) : wrap64 ((m : Int) + 1) = ((m + 1 : Nat) : Int) := by
  unfold wrap64; omega
def refN (n b0 b1 b2 b3 : Nat) : Nat :=
  if b0 < 128 then 1
  else if 194 ≤ b0 ∧ b0 < 224 then (if n < 2 then 0 else if 128 ≤ b1 ∧ b1 < 192 then 2 else 0)
  else if 224 ≤ b0 ∧ b0 < 240 then (if n < 3 then 0 else if (128 ≤ b1 ∧ b1 < 192) ∧ 128 ≤ b2 ∧ b2 < 192 then (if b0 = 224 ∧ b1 < 160 ∨ b0 = 237 ∧ 159 < b1 then 0 else 3) else 0)
  else if 240 ≤ b0 ∧ b0 < 245 then (if n < 4 then 0 else if (128 ≤ b1 ∧ b1 < 192) ∧ (128 ≤ b2 ∧ b2 < 192) ∧ 128 ≤ b3 ∧ b3 < 192 then (if b0 = 240 ∧ b1 < 144 ∨ b0 = 244 ∧ 143 < b1 then 0 else 4) else 0)
  else 0
def nxN (d : Nat × Nat) : Nat := if d = (65533, 1) then 0 else d.2
set_option maxHeartbeats 2000000 in
theorem refN_eq (n b0 b1 b2 b3 : Nat) (hn : 1 ≤ n) (h0 : b0 < 256) (h1 : b1 < 256) (h2 : b2 < 256) (h3 : b3 < 256) : refN n b0 b1 b2 b3 = nxN (Lib.decodeN n b0 b1 b2 b3) := by
  unfold refN nxN Lib.decodeN
  by_cases c0 : b0 < 128
  · rw [if_pos c0, if_pos c0, if_neg (by simp; omega)]
  · rw [if_neg c0, if_neg c0]
    by_cases c1 : 194 ≤ b0 ∧ b0 < 224
    · rw [if_pos c1]
      repeat' split
      all_goals first | rfl | (exfalso; omega) | (simp_all; omega) | simp_all
    · rw [if_neg c1]
      by_cases c2 : 224 ≤ b0 ∧ b0 < 240
      · rw [if_pos c2]
        repeat' split
        all_goals first | rfl | (exfalso; omega) | (simp_all; omega) | simp_all
      · rw [if_neg c2]
        by_cases c3 : 240 ≤ b0 ∧ b0 < 245
        · rw [if_pos c3]
          repeat' split
          all_goals first | rfl | (exfalso; omega) | (simp_all; omega) | simp_all
        · rw [if_neg c3]
          repeat' split
          all_goals first | rfl | (exfalso; omega) | (simp_all; omega) | simp_all
theorem lt256 (l : List UInt8) (m : Nat) : (l.getD m 0).toNat < 256 := (l.getD m 0).toNat_lt
structure At (s : ByteArray) (i b0 b1 b2 b3 : Nat) : Prop where
  h0 : b0 < 256
  h1 : b1 < 256
  h2 : b2 < 256
  h3 : b3 < 256
  hi : i < s.size
  hs : s.size ≤ 140737488351232
  e0 : bt s (i : Int) = (b0 : Int)
  e1 : bt s ((i + 1 : Nat) : Int) = (b1 : Int)
  e2 : bt s ((i + 2 : Nat) : Int) = (b2 : Int)
  e3 : bt s ((i + 3 : Nat) : Int) = (b3 : Int)
  w1 : wrap64 ((i : Int) + 1) = ((i + 1 : Nat) : Int)
  w2 : wrap64 ((i : Int) + 2) = ((i + 2 : Nat) : Int)
  w3 : wrap64 ((i : Int) + 3) = ((i + 3 : Nat) : Int)
  w4 : wrap64 ((i : Int) + 4) = ((i + 4 : Nat) : Int)
theorem v1 : wrap64 (1 + 1) = 2 := by unfold wrap64; omega
theorem v2 : wrap64 (2 + 1) = 3 := by unfold wrap64; omega
theorem v3 : wrap64 (3 + 1) = 4 := by unfold wrap64; omega
section
variable {s : ByteArray} {i b0 b1 b2 b3 : Nat}
theorem next_1 (A : At s i b0 b1 b2 b3) (c : b0 < 128) : trystref08_next.f 0 s i = some 1 := by
  have h1 : (0 : Int) ≤ (i : Int) := by omega
  have h2 : (i : Int) < (s.size : Int) := by have := A.hi; omega
  have h3 : (b0 : Int) < 128 := by omega
  simp only [trystref08_next.f, A.e0]
  rw [if_pos h1, if_pos h2, if_pos h3]
theorem l0_step (k : Nat) (x5 n x7 m b : Int) (hx : x7 < n) (hw : wrap64 ((i : Int) + x7) = m) (h0 : 0 ≤ m) (h1 : m < (s.size : Int)) (hb : bt s m = b) :
    trystref08_next.l0 (k + 1) s i x5 n x7 = if 128 ≤ b ∧ b < 192 then trystref08_next.l0 k s i x5 n (wrap64 (x7 + 1)) else some 0 := by
  simp only [trystref08_next.l0, hw, hb]
  rw [if_pos hx, if_pos h0, if_pos h1]
  by_cases c1 : b < 128
  · rw [if_pos c1, if_neg (by omega)]
  · rw [if_neg c1]
    by_cases c2 : b > 191
    · rw [if_pos c2, if_neg (by omega)]
    · rw [if_neg c2, if_pos (by omega)]
theorem l0_end (A : At s i b0 b1 b2 b3) (h : i + 1 < s.size) (k : Nat) (n x7 : Int) (hx : ¬ x7 < n) :
    trystref08_next.l0 (k + 1) s i b0 n x7 = if (b0 = 224 ∧ b1 < 160) ∨ (b0 = 237 ∧ 159 < b1) ∨ (b0 = 240 ∧ b1 < 144) ∨ (b0 = 244 ∧ 143 < b1) then some 0 else some n := by
  simp only [trystref08_next.l0, A.w1, A.e1]
  rw [if_neg hx, if_pos (show (0 : Int) ≤ ((i + 1 : Nat) : Int) by omega), if_pos (show ((i + 1 : Nat) : Int) < (s.size : Int) by omega)]
  by_cases c1 : (b0 : Int) = 224
  · rw [if_pos c1]
    by_cases d1 : (b1 : Int) < 160
    · rw [if_pos d1, if_pos (by omega)]
    · rw [if_neg d1, if_neg (show ¬ (b0 : Int) = 237 by omega), if_neg (show ¬ (b0 : Int) = 240 by omega), if_neg (show ¬ (b0 : Int) = 244 by omega), if_neg (by omega)]
  · rw [if_neg c1]
    by_cases c2 : (b0 : Int) = 237
    · rw [if_pos c2]
      by_cases d1 : (b1 : Int) > 159
      · rw [if_pos d1, if_pos (by omega)]
      · rw [if_neg d1, if_neg (show ¬ (b0 : Int) = 240 by omega), if_neg (show ¬ (b0 : Int) = 244 by omega), if_neg (by omega)]
    · rw [if_neg c2]
      by_cases c3 : (b0 : Int) = 240
      · rw [if_pos c3]
        by_cases d1 : (b1 : Int) < 144
        · rw [if_pos d1, if_pos (by omega)]
        · rw [if_neg d1, if_neg (show ¬ (b0 : Int) = 244 by omega), if_neg (by omega)]
      · rw [if_neg c3]
        by_cases c4 : (b0 : Int) = 244
        · rw [if_pos c4]
          by_cases d1 : (b1 : Int) > 143
          · rw [if_pos d1, if_pos (by omega)]
          · rw [if_neg d1, if_neg (by omega)]
        · rw [if_neg c4, if_neg (by omega)]
theorem next_2 (A : At s i b0 b1 b2 b3) (c : 194 ≤ b0 ∧ b0 < 224) : trystref08_next.f 4 s i = some ((if s.size - i < 2 then 0 else if 128 ≤ b1 ∧ b1 < 192 then 2 else 0 : Nat) : Int) := by
  have hi := A.hi
  have g5 : decide ((b0 : Int) < 224) = true := by simp; omega
  simp only [trystref08_next.f, A.e0, g5]
  rw [if_pos (show (0 : Int) ≤ (i : Int) by omega), if_pos (show (i : Int) < (s.size : Int) by omega), if_neg (show ¬ (b0 : Int) < 128 by omega), if_pos (show (b0 : Int) ≥ 194 by omega)]
  simp only [trystref08_next.j0, if_true]
  simp only [trystref08_next.j2, A.w2]
  by_cases hn : s.size - i < 2
  · rw [if_pos hn, if_pos (show ((i + 2 : Nat) : Int) > (s.size : Int) by omega)]; rfl
  · rw [if_neg hn, if_neg (show ¬ ((i + 2 : Nat) : Int) > (s.size : Int) by omega)]
    rw [l0_step 1 _ _ _ _ _ (by omega) A.w1 (by omega) (by omega) A.e1, v1]
    by_cases k1 : 128 ≤ b1 ∧ b1 < 192
    · rw [if_pos k1, if_pos (by omega), l0_end A (by omega) 0 _ _ (by omega), if_neg (by omega)]; rfl
    · rw [if_neg k1, if_neg (by omega)]; rfl
theorem next_3 (A : At s i b0 b1 b2 b3) (c : 224 ≤ b0 ∧ b0 < 240) : trystref08_next.f 6 s i = some ((if s.size - i < 3 then 0 else if (128 ≤ b1 ∧ b1 < 192) ∧ 128 ≤ b2 ∧ b2 < 192 then (if b0 = 224 ∧ b1 < 160 ∨ b0 = 237 ∧ 159 < b1 then 0 else 3) else 0 : Nat) : Int) := by
  have hi := A.hi
  have g5 : decide ((b0 : Int) < 224) = false := by simp; omega
  have g6 : decide ((b0 : Int) < 240) = true := by simp; omega
  simp only [trystref08_next.f, A.e0, g5]
  rw [if_pos (show (0 : Int) ≤ (i : Int) by omega), if_pos (show (i : Int) < (s.size : Int) by omega), if_neg (show ¬ (b0 : Int) < 128 by omega), if_pos (show (b0 : Int) ≥ 194 by omega)]
  simp only [trystref08_next.j0, g6]
  rw [if_neg (by simp), if_pos (show (b0 : Int) ≥ 224 by omega)]
  simp only [trystref08_next.j1, if_true]
  simp only [trystref08_next.j2, A.w3]
  by_cases hn : s.size - i < 3
  · rw [if_pos hn, if_pos (show ((i + 3 : Nat) : Int) > (s.size : Int) by omega)]; rfl
  · rw [if_neg hn, if_neg (show ¬ ((i + 3 : Nat) : Int) > (s.size : Int) by omega)]
    rw [l0_step 2 _ _ _ _ _ (by omega) A.w1 (by omega) (by omega) A.e1, v1]
    by_cases k1 : 128 ≤ b1 ∧ b1 < 192
    · rw [if_pos (show 128 ≤ (b1 : Int) ∧ (b1 : Int) < 192 by omega), l0_step 1 _ _ _ _ _ (by omega) A.w2 (by omega) (by omega) A.e2, v2]
      by_cases k2 : 128 ≤ b2 ∧ b2 < 192
      · rw [if_pos (show 128 ≤ (b2 : Int) ∧ (b2 : Int) < 192 by omega), l0_end A (by omega) 0 _ _ (by omega)]
        by_cases k3 : b0 = 224 ∧ b1 < 160 ∨ b0 = 237 ∧ 159 < b1
        · rw [if_pos (by omega), if_pos ⟨k1, k2⟩, if_pos k3]; rfl
        · rw [if_neg (by omega), if_pos ⟨k1, k2⟩, if_neg k3]; rfl
      · rw [if_neg (show ¬ (128 ≤ (b2 : Int) ∧ (b2 : Int) < 192) by omega), if_neg (fun h => k2 h.2)]; rfl
    · rw [if_neg (show ¬ (128 ≤ (b1 : Int) ∧ (b1 : Int) < 192) by omega), if_neg (fun h => k1 h.1)]; rfl
theorem next_4 (A : At s i b0 b1 b2 b3) (c : 240 ≤ b0 ∧ b0 < 245) : trystref08_next.f 7 s i = some ((if s.size - i < 4 then 0 else if (128 ≤ b1 ∧ b1 < 192) ∧ (128 ≤ b2 ∧ b2 < 192) ∧ 128 ≤ b3 ∧ b3 < 192 then (if b0 = 240 ∧ b1 < 144 ∨ b0 = 244 ∧ 143 < b1 then 0 else 4) else 0 : Nat) : Int) := by
  have hi := A.hi
  have g5 : decide ((b0 : Int) < 224) = false := by simp; omega
  have g6 : decide ((b0 : Int) < 240) = false := by simp; omega
  simp only [trystref08_next.f, A.e0, g5]
  rw [if_pos (show (0 : Int) ≤ (i : Int) by omega), if_pos (show (i : Int) < (s.size : Int) by omega), if_neg (show ¬ (b0 : Int) < 128 by omega), if_pos (show (b0 : Int) ≥ 194 by omega)]
  simp only [trystref08_next.j0, g6]
  rw [if_neg (by simp), if_pos (show (b0 : Int) ≥ 224 by omega)]
  simp only [trystref08_next.j1]
  rw [if_neg (by simp), if_pos (show (b0 : Int) ≥ 240 by omega), if_pos (show (b0 : Int) < 245 by omega)]
  simp only [trystref08_next.j2, A.w4]
  by_cases hn : s.size - i < 4
  · rw [if_pos hn, if_pos (show ((i + 4 : Nat) : Int) > (s.size : Int) by omega)]; rfl
  · rw [if_neg hn, if_neg (show ¬ ((i + 4 : Nat) : Int) > (s.size : Int) by omega)]
    rw [l0_step 3 _ _ _ _ _ (by omega) A.w1 (by omega) (by omega) A.e1, v1]
    by_cases k1 : 128 ≤ b1 ∧ b1 < 192
    · rw [if_pos (show 128 ≤ (b1 : Int) ∧ (b1 : Int) < 192 by omega), l0_step 2 _ _ _ _ _ (by omega) A.w2 (by omega) (by omega) A.e2, v2]
      by_cases k2 : 128 ≤ b2 ∧ b2 < 192
      · rw [if_pos (show 128 ≤ (b2 : Int) ∧ (b2 : Int) < 192 by omega), l0_step 1 _ _ _ _ _ (by omega) A.w3 (by omega) (by omega) A.e3, v3]
        by_cases k4 : 128 ≤ b3 ∧ b3 < 192
        · rw [if_pos (show 128 ≤ (b3 : Int) ∧ (b3 : Int) < 192 by omega), l0_end A (by omega) 0 _ _ (by omega)]
          by_cases k3 : b0 = 240 ∧ b1 < 144 ∨ b0 = 244 ∧ 143 < b1
          · rw [if_pos (by omega), if_pos ⟨k1, k2, k4⟩, if_pos k3]; rfl
          · rw [if_neg (by omega), if_pos ⟨k1, k2, k4⟩, if_neg k3]; rfl
        · rw [if_neg (show ¬ (128 ≤ (b3 : Int) ∧ (b3 : Int) < 192) by omega), if_neg (fun h => k4 h.2.2)]; rfl
      · rw [if_neg (show ¬ (128 ≤ (b2 : Int) ∧ (b2 : Int) < 192) by omega), if_neg (fun h => k2 h.2.1)]; rfl
    · rw [if_neg (show ¬ (128 ≤ (b1 : Int) ∧ (b1 : Int) < 192) by omega), if_neg (fun h => k1 h.1)]; rfl
theorem next_0 (A : At s i b0 b1 b2 b3) (c0 : ¬ b0 < 128) (c1 : ¬ (194 ≤ b0 ∧ b0 < 224)) (c2 : ¬ (224 ≤ b0 ∧ b0 < 240)) (c3 : ¬ (240 ≤ b0 ∧ b0 < 245)) : trystref08_next.f 2 s i = some 0 := by
  have hi := A.hi
  have g5 : decide ((b0 : Int) < 224) = false ∨ b0 < 194 := by by_cases h : b0 < 194; exact .inr h; left; simp; omega
  have g6 : decide ((b0 : Int) < 240) = false ∨ b0 < 194 := by by_cases h : b0 < 194; exact .inr h; left; simp; omega
  simp only [trystref08_next.f, A.e0]
  rw [if_pos (show (0 : Int) ≤ (i : Int) by omega), if_pos (show (i : Int) < (s.size : Int) by omega), if_neg (show ¬ (b0 : Int) < 128 by omega)]
  by_cases c4 : 194 ≤ b0
  · have g5' : decide ((b0 : Int) < 224) = false := g5.resolve_right (by omega)
    have g6' : decide ((b0 : Int) < 240) = false := g6.resolve_right (by omega)
    rw [if_pos (show (b0 : Int) ≥ 194 by omega), g5']
    simp only [trystref08_next.j0, g6']
    rw [if_neg (by simp), if_pos (show (b0 : Int) ≥ 224 by omega)]
    simp only [trystref08_next.j1]
    rw [if_neg (by simp), if_pos (show (b0 : Int) ≥ 240 by omega), if_neg (show ¬ (b0 : Int) < 245 by omega)]
  · rw [if_neg (show ¬ (b0 : Int) ≥ 194 by omega)]
    simp only [trystref08_next.j0]
    rw [if_neg (by simp), if_neg (show ¬ (b0 : Int) ≥ 224 by omega)]
    simp only [trystref08_next.j1]
    rw [if_neg (by simp), if_neg (show ¬ (b0 : Int) ≥ 240 by omega)]
end
/-- How many bytes the code point at the head has; 0: it is none. -/
def nx (l : List UInt8) : Nat := nxN (Lib.decodeL l)
theorem next_ev (s : ByteArray) (i : Nat) (hi : i < s.size) (hs : s.size ≤ 140737488351232) : Ev (fun k => trystref08_next.f k s i) ((nx (s.data.toList.drop i) : Nat) : Int) := by
  have A : At s i (s.data.toList.getD i 0).toNat (s.data.toList.getD (i + 1) 0).toNat (s.data.toList.getD (i + 2) 0).toNat (s.data.toList.getD (i + 3) 0).toNat :=
    ⟨lt256 _ _, lt256 _ _, lt256 _ _, lt256 _ _, hi, hs, bt_nat s i, bt_nat s (i + 1), bt_nat s (i + 2), bt_nat s (i + 3), wrap_nat i 1 (by omega), wrap_nat i 2 (by omega), wrap_nat i 3 (by omega), wrap_nat i 4 (by omega)⟩
  have hd : nx (s.data.toList.drop i) = refN (s.size - i) (s.data.toList.getD i 0).toNat (s.data.toList.getD (i + 1) 0).toNat (s.data.toList.getD (i + 2) 0).toNat (s.data.toList.getD (i + 3) 0).toNat := by
    rw [refN_eq _ _ _ _ _ (by omega) A.h0 A.h1 A.h2 A.h3]
    unfold nx
    rw [Lib.decodeL_N, List.length_drop, Lib.getD_dropU, Lib.getD_dropU, Lib.getD_dropU, Lib.getD_dropU]
    simp
  rw [hd]
  unfold refN
  generalize (s.data.toList.getD i 0).toNat = b0 at *
  generalize (s.data.toList.getD (i + 1) 0).toNat = b1 at *
  generalize (s.data.toList.getD (i + 2) 0).toNat = b2 at *
  generalize (s.data.toList.getD (i + 3) 0).toNat = b3 at *
  have M := fun k => trystref08_next.mono s i k
  by_cases c0 : b0 < 128
  · rw [if_pos c0]; exact Ev.of M (next_1 A c0)
  rw [if_neg c0]
  by_cases c1 : 194 ≤ b0 ∧ b0 < 224
  · rw [if_pos c1]; exact Ev.of M (next_2 A c1)
  rw [if_neg c1]
  by_cases c2 : 224 ≤ b0 ∧ b0 < 240
  · rw [if_pos c2]; exact Ev.of M (next_3 A c2)
  rw [if_neg c2]
  by_cases c3 : 240 ≤ b0 ∧ b0 < 245
  · rw [if_pos c3]; exact Ev.of M (next_4 A c3)
  rw [if_neg c3]; exact Ev.of M (next_0 A c0 c1 c2 c3)
theorem decL_pos (l : List UInt8) (hne : l ≠ []) : 1 ≤ (Lib.decodeL l).2 := by
  unfold Lib.decodeL
  refine Lib.decode_width_pos _ 0 ?_
  show 0 < l.toArray.size
  rw [List.size_toArray]
  exact List.length_pos_iff.2 hne
theorem nx_bad (l : List UInt8) (hne : l ≠ []) : nx l = 0 ↔ (Lib.decodeL l).1 = 65533 ∧ (Lib.decodeL l).2 = 1 := by
  have h1 := decL_pos l hne
  unfold nx nxN
  constructor
  · intro h
    split at h
    · rename_i h2; rw [h2]; exact ⟨rfl, rfl⟩
    · omega
  · rintro ⟨h2, h3⟩
    rw [if_pos (by cases hd : Lib.decodeL l; rw [hd] at h2 h3; simp at h2 h3; rw [h2, h3])]
theorem nx_good (l : List UInt8) (h : ¬ ((Lib.decodeL l).1 = 65533 ∧ (Lib.decodeL l).2 = 1)) : nx l = (Lib.decodeL l).2 := by
  unfold nx nxN
  rw [if_neg (fun e => h (by rw [e]; exact ⟨rfl, rfl⟩))]
theorem UTF_ev (s : ByteArray) (hs : s.size ≤ 140737488351232) : ∀ (n i : Nat), s.size - i ≤ n → i ≤ s.size → Ev (fun k => trystref08_UTF.l0 k s i) (Lib.validD (s.data.toList.drop i))
  | 0, i, h, hi => by
    obtain rfl : i = s.size := by omega
    refine Ev.step (f := fun _ => some true) (fun k => ?_) ?_
    · simp only [trystref08_UTF.l0]; rw [if_neg (by omega)]
    · rw [List.drop_of_length_le (by simp)]; exact Ev.now true
  | n + 1, i, h, hi => by
    by_cases hlt : i < s.size
    · have hne : s.data.toList.drop i ≠ [] := by
        intro e; have := congrArg List.length e; simp at this; omega
      have hn := next_ev s i hlt hs
      have hle := Lib.decodeL_le (s.data.toList.drop i) hne
      have hpos := decL_pos _ hne
      rw [List.length_drop] at hle
      have hsz : s.data.toList.length = s.size := by simp
      rw [Lib.validD_step _ hne]
      refine Ev.step (f := fun k => (trystref08_next.f k s i).bind fun t => if t = 0 then some false else trystref08_UTF.l0 k s (wrap64 ((i : Int) + t))) (fun k => ?_) ?_
      · simp only [trystref08_UTF.l0]; rw [if_pos (by omega)]
      · refine Ev.bind hn ?_
        by_cases hbad : (Lib.decodeL (s.data.toList.drop i)).1 = 65533 ∧ (Lib.decodeL (s.data.toList.drop i)).2 = 1
        · rw [if_pos hbad, (nx_bad _ hne).2 hbad]
          simp only [Int.natCast_zero, if_true]
          exact Ev.now false
        · rw [if_neg hbad, nx_good _ hbad, List.drop_drop]
          simp only [if_neg (show ¬ (((Lib.decodeL (s.data.toList.drop i)).2 : Nat) : Int) = 0 by omega)]
          rw [wrap_nat i _ (by omega)]
          exact UTF_ev s hs n _ (by omega) (by omega)
    · obtain rfl : i = s.size := by omega
      refine Ev.step (f := fun _ => some true) (fun k => ?_) ?_
      · simp only [trystref08_UTF.l0]; rw [if_neg (by omega)]
      · rw [List.drop_of_length_le (by simp)]; exact Ev.now true
theorem UTF_all (s : ByteArray) (hs : s.size ≤ 140737488351232) : Ev (fun k => trystref08_UTF.f k s) (Lib.validD s.data.toList) := by
  have := UTF_ev s hs s.size 0 (by omega) (by omega)
  exact this
theorem drop_at (s : ByteArray) (k : Nat) (h : k < s.size) : s.data.toList.drop k = s.data.toList.getD k 0 :: s.data.toList.drop (k + 1) := by
  rw [List.drop_eq_getElem_cons (by simpa using h)]
  rw [List.getD_eq_getElem?_getD, List.getElem?_eq_getElem (by simpa using h)]; rfl
theorem ne_nat (c : UInt8) (n : Nat) (hn : n < 256) (h : c ≠ n.toUInt8) : ¬ (c.toNat : Int) = (n : Int) :=
  fun e => h (by apply UInt8.toNat_inj.1; have : c.toNat = n := by omega
                 rw [this]; simp; omega)
end Go.Proofs.YtdojmdbaiddkgaaGreatDoor.Pure
end
section
set_option linter.unusedVariables false
set_option linter.unusedSimpArgs false
namespace Go.Proofs.YtdojmdbaiddkgaaGreatDoor.Pure
open Go.RowKit Go.Proofs.YtdojmdbaiddkgaaGreatDoor.Print Go.Proofs.YtdojmdbaiddkgaaGreatDoorW.PrintWords Go.Proofs.YtdojmdbaiddkgaaGreatDoorW.PrintLast
/-- May this byte stand? -/
def okB (feeds : Bool) (c : UInt8) : Bool := !(c == 127 || (decide (c.toNat < 32) && c != 9 && !(feeds && c == 10)))
def cleanR (feeds : Bool) (l : List UInt8) : Int := if Lib.validD l = true then (if l.all (okB feeds) = true then 0 else 7) else 3
theorem okB_127 (f : Bool) : okB f 127 = false := by cases f <;> rfl
set_option maxHeartbeats 1000000 in
theorem refClean_ev (s : ByteArray) (f : Bool) (hs : s.size ≤ 140737488351232) : ∀ (n i : Nat), s.size - i ≤ n → i ≤ s.size → Ev (fun k => trystref08_Clean.l0 k s f (s.size : Int) i) (if (s.data.toList.drop i).all (okB f) = true then (0 : Int) else 7)
  | 0, i, h, hi => by
    obtain rfl : i = s.size := by omega
    refine Ev.step (f := fun _ => some 0) (fun k => ?_) ?_
    · simp only [trystref08_Clean.l0]; rw [if_neg (by omega)]
    · rw [List.drop_of_length_le (by simp)]; exact Ev.now _
  | n + 1, i, h, hi => by
    by_cases hlt : i < s.size
    · rw [drop_at s i hlt]
      have hb := bt_nat s i
      have ih := refClean_ev s f hs n (i + 1) (by omega) (by omega)
      generalize s.data.toList.getD i 0 = c at *
      have hc := c.toNat_lt
      refine Ev.step (f := fun k => if okB f c = true then trystref08_Clean.l0 k s f (s.size : Int) ((i + 1 : Nat) : Int) else some 7) (fun k => ?_) ?_
      · simp only [trystref08_Clean.l0, hb]
        rw [if_pos (by omega), if_pos (by omega), if_pos (by omega), wrap_one i (by omega)]
        by_cases h1 : c = 127
        · subst h1; rw [if_pos (show ((127 : UInt8).toNat : Int) = 127 from rfl), okB_127]; rfl
        · rw [if_neg (show ¬ (c.toNat : Int) = 127 from ne_nat c 127 (by omega) h1)]
          by_cases h2 : (c.toNat : Int) < 32
          · rw [if_pos h2]
            by_cases h3 : c = 9
            · subst h3; rw [if_pos (show ((9 : UInt8).toNat : Int) = 9 from rfl)]; cases f <;> rfl
            · rw [if_neg (show ¬ (c.toNat : Int) = 9 from ne_nat c 9 (by omega) h3)]
              have e2 : decide (c.toNat < 32) = true := by simp; omega
              cases f
              · rw [if_neg (by simp)]
                have : okB false c = false := by simp [okB, e2, h1, h3]
                rw [this]; rfl
              · rw [if_pos rfl]
                by_cases h4 : c = 10
                · subst h4; rw [if_pos (show ((10 : UInt8).toNat : Int) = 10 from rfl)]; rfl
                · rw [if_neg (show ¬ (c.toNat : Int) = 10 from ne_nat c 10 (by omega) h4)]
                  have : okB true c = false := by simp [okB, h1, h3, h4]; omega
                  rw [this]; rfl
          · rw [if_neg h2]
            have : okB f c = true := by simp [okB, h1]; omega
            rw [this]; rfl
      · rw [List.all_cons]
        cases hok : okB f c
        · exact Ev.now 7
        · simpa using ih
    · obtain rfl : i = s.size := by omega
      refine Ev.step (f := fun _ => some 0) (fun k => ?_) ?_
      · simp only [trystref08_Clean.l0]; rw [if_neg (by omega)]
      · rw [List.drop_of_length_le (by simp)]; exact Ev.now _
theorem refClean (s : ByteArray) (f : Bool) (hs : s.size ≤ 140737488351232) : Ev (fun k => trystref08_Clean.f k s f) (cleanR f s.data.toList) := by
  refine Ev.bind (UTF_all s hs) ?_
  unfold cleanR
  cases hv : Lib.validD s.data.toList
  · exact Ev.now 3
  · have := refClean_ev s f hs s.size 0 (by omega) (by omega)
    simpa using this
theorem control_some (c : UInt8) (f : Bool) : escape_control.f c.toNat f = some (!okB f c) := by
  have hc := c.toNat_lt
  unfold escape_control.f
  by_cases h3 : c = 9
  · subst h3; cases f <;> rfl
  · rw [if_neg (show ¬ (c.toNat : Int) = 9 from ne_nat c 9 (by omega) h3)]
    by_cases h4 : c = 10
    · subst h4; cases f <;> rfl
    · rw [if_neg (show ¬ (c.toNat : Int) = 10 from ne_nat c 10 (by omega) h4)]
      by_cases h2 : (c.toNat : Int) < 32
      · rw [if_pos h2]
        have : okB f c = false := by
          have e2 : decide (c.toNat < 32) = true := by simp; omega
          have e4 : (c == 10) = false := by simp [h4]
          have e9 : (c != 9) = true := by simp [h3]
          unfold okB; rw [e2, e4, e9]; cases f <;> simp
        rw [this]; rfl
      · rw [if_neg h2]
        have e2 : decide (c.toNat < 32) = false := by simp; omega
        by_cases h1 : c = 127
        · subst h1; cases f <;> rfl
        · have : ((c.toNat : Int) == 127) = false := beq_eq_false_iff_ne.2 (show ¬ (c.toNat : Int) = 127 from ne_nat c 127 (by omega) h1)
          have e1 : (c == 127) = false := by simp [h1]
          unfold okB; rw [this, e1, e2]; simp
theorem escClean_ev (s : ByteArray) (f : Bool) (hs : s.size ≤ 140737488351232) : ∀ (n i : Nat), s.size - i ≤ n → i ≤ s.size → Ev (fun k => escape_Clean.l0 k s f (s.size : Int) i) (if (s.data.toList.drop i).all (okB f) = true then (0 : Int) else 7)
  | 0, i, h, hi => by
    obtain rfl : i = s.size := by omega
    refine Ev.step (f := fun _ => some 0) (fun k => ?_) ?_
    · simp only [escape_Clean.l0]; rw [if_neg (by omega)]
    · rw [List.drop_of_length_le (by simp)]; exact Ev.now _
  | n + 1, i, h, hi => by
    by_cases hlt : i < s.size
    · rw [drop_at s i hlt]
      have hb := bt_nat s i
      have ih := escClean_ev s f hs n (i + 1) (by omega) (by omega)
      generalize s.data.toList.getD i 0 = c at *
      refine Ev.step (f := fun k => if okB f c = true then escape_Clean.l0 k s f (s.size : Int) ((i + 1 : Nat) : Int) else some 7) (fun k => ?_) ?_
      · simp only [escape_Clean.l0, hb, control_some, Option.bind_some]
        rw [if_pos (by omega), if_pos (by omega), if_pos (by omega), wrap_one i (by omega)]
        cases okB f c <;> rfl
      · rw [List.all_cons]
        cases hok : okB f c
        · exact Ev.now 7
        · simpa using ih
    · obtain rfl : i = s.size := by omega
      refine Ev.step (f := fun _ => some 0) (fun k => ?_) ?_
      · simp only [escape_Clean.l0]; rw [if_neg (by omega)]
      · rw [List.drop_of_length_le (by simp)]; exact Ev.now _
theorem escClean (s : ByteArray) (f : Bool) (hs : s.size ≤ 140737488351232) : Ev (fun k => escape_Clean.f k s f) (cleanR f s.data.toList) := by
  unfold escape_Clean.f
  have h1 : utf8_ValidString.f s = some (Lib.validD s.data.toList) := by unfold utf8_ValidString.f; rw [if_pos (by omega)]
  simp only [h1, Option.bind_some]
  unfold cleanR
  cases hv : Lib.validD s.data.toList
  · exact Ev.now 3
  · have := escClean_ev s f hs s.size 0 (by omega) (by omega)
    simpa using this
end Go.Proofs.YtdojmdbaiddkgaaGreatDoor.Pure
end
section
set_option linter.unusedVariables false
set_option linter.unusedSimpArgs false
namespace Go.Proofs.YtdojmdbaiddkgaaGreatDoor.Print
open Go.RowKit Go.Proofs.YtdojmdbaiddkgaaGreatDoorW.PrintWords Go.Proofs.YtdojmdbaiddkgaaGreatDoorW.PrintLast
def hasN (a : ByteArray) (p : S77) : Bool := decide (p.f0 = a)
/-- Where a parameter of a name stands, from a place on; -1: there is none. -/
def idxN (a : ByteArray) : List S77 → Nat → Int
  | [], _ => -1
  | p :: t, i => if hasN a p = true then (i : Int) else idxN a t (i + 1)
theorem beqS_yes (a : ByteArray) : (a.toList == a.toList) = true := beq_self_eq_true _
theorem at1_walk (p : S77) (a : ByteArray) (A : Option Addr) (c : Nat) (x : Addr) (w : World) (hx : w.cell? x = some (.string a)) :
    Calls Tryz.prog 88 #[.agg #[.string p.f0, .slice A p.f1.length c], .pointer (some x)] w fun e w' => e = .returned (.bool (hasN a p)) ∧ Below w.heap.size w w' := by
  have hxl := cellLt0 hx
  by_cases h : p.f0 = a
  · have hr : hasN a p = true := decide_eq_true h
    have hb : (p.f0.toList == a.toList) = true := by rw [h]; exact beqS_yes a
    rw [hr]
    clear hr h
    go_enter Tryz.func88, Tryz.ntmps88
    go_wp2_with fail
    go_ret
    exact ⟨rfl, below_alloc (Below.refl _ _) _⟩
  · have hr : hasN a p = false := decide_eq_false h
    have hb := beqS_no h
    rw [hr]
    clear hr h
    go_enter Tryz.func88, Tryz.ntmps88
    go_wp2_with fail
    go_ret
    exact ⟨rfl, below_alloc (Below.refl _ _) _⟩
set_option maxHeartbeats 4000000 in
set_option maxRecDepth 100000 in
theorem idxF_walk (A0 : Option Addr) (c0 : Nat) (l0 : List S77) (a : ByteArray) (x : Addr) (w : World) (h0 : Kd.C k77 w A0 l0.length l0) (hx : w.cell? x = some (.string a)) :
    Calls Tryz.prog 87 #[.slice A0 l0.length c0, .func (.func 88) #[] #[.pointer (some x)]] w fun e w' => e = .returned (.int .i64 (idxN a l0 0)) ∧ Below w.heap.size w w' := by
  have hm := h0.2.1
  have H0 := Aside0.mk h0
  have HX := Aside0.mk hx
  have hxl := cellLt0 hx
  clear h0 hx
  obtain ⟨n, hn⟩ : ∃ n, n = l0.length := ⟨_, rfl⟩
  have HN := Aside0.mk hn
  rw [← hn] at hm ⊢
  clear hn
  go_enter Tryz.func87, Tryz.ntmps87
  go_wp2_with fail
  go_loopg [5, 8] n (fun g v5 v8 wr => ∃ i : Nat, v8 = .int .i64 i ∧ i ≤ n ∧ Aside0 (n ≤ i + g) ∧ Aside0 (Below w.heap.size w wr) ∧ Aside0 (idxN a l0 0 = idxN a (l0.drop i) i))
  case atStart => exact ⟨0, rfl, by omega, ⟨by omega⟩, ⟨Below.refl _ _⟩, ⟨rfl⟩⟩
  case round =>
    obtain ⟨i, rfl, hi, HG, HB, HE⟩ := hrel
    by_cases hlt : i < n
    · cases gk with
      | zero => exfalso; have := HG.out; omega
      | succ g =>
      obtain ⟨b0, o0, A2, c2, e0, p0, p1, hc2, hC2⟩ := par_at (Kd.C_below H0.out HB.out) i (by have := HN.out; omega)
      subst e0
      have hd : l0.drop i = l0.getD i z77 :: l0.drop (i + 1) := by
        rw [List.drop_eq_getElem_cons (by have := HN.out; omega), List.getD_eq_getElem?_getD, List.getElem?_eq_getElem (by have := HN.out; omega)]; rfl
      obtain ⟨p, hp⟩ : ∃ p, p = l0.getD i z77 := ⟨_, rfl⟩
      rw [← hp] at p0 p1 hd
      have HD := Aside0.mk hd
      clear hC2 hc2 hp hd
      have HQQ := Aside0.mk (at1_walk p a A2 c2 x)
      obtain ⟨r, hr⟩ : ∃ r, r = hasN a p := ⟨_, rfl⟩
      have HR := Aside0.mk hr
      rw [← hr] at HQQ
      clear hr
      go_wp2_with fail
      go_at_call 88
      refine (HQQ.out _ ((HB.out.cell hxl).trans HX.out)).mono ?_
      rintro e w2 ⟨rfl, hB⟩
      have HB2 := Aside0.mk (HB.out.trans (hB.mono HB.out.size))
      clear hB
      cases r with
      | true =>
        go_wp2_with fail
        go_ret
        exact ⟨by rw [HE.out, HD.out, idxN, if_pos HR.out.symm]; rfl, HB2.out⟩
      | false =>
        go_wp2_with fail
        go_roundg g
        case measure => have := HG.out; omega
        case rel => exact ⟨i + 1, by first | rfl | (go_num; done), by omega, ⟨by have := HG.out; omega⟩, HB2, ⟨by rw [HE.out, HD.out, idxN, if_neg (by rw [← HR.out]; simp)]⟩⟩
    · have hin : i = n := by omega
      subst hin
      go_wp2_with fail
      go_ret
      refine ⟨?_, HB.out⟩
      rw [HE.out, List.drop_eq_nil_of_le (by have := HN.out; omega)]
      rfl
def line_at.f (l0 : List S77) (a1 : ByteArray) : Option Int := some (idxN a1 l0 0)
theorem line_at.calls (A0 : Option Addr) (c0 : Nat) (l0 : List S77) (a1 : ByteArray) (r : Int) (w : World) (hG : GG w) (hr0 : Kd.C k77 w A0 l0.length l0) (hc0 : l0.length ≤ c0) (h : line_at.f l0 a1 = some r) :
    Calls Tryz.prog 72 #[.slice A0 l0.length c0, .string a1] w fun e w' => e = .returned (.int .i64 r) ∧ Below w.heap.size w w' := by
  obtain rfl := Option.some.inj h
  have H0 := Aside0.mk hr0
  clear h hG hr0 hc0
  obtain ⟨n, hn⟩ : ∃ n, n = l0.length := ⟨_, rfl⟩
  have HN := Aside0.mk hn
  rw [← hn]
  obtain ⟨r, hr⟩ : ∃ r, r = idxN a1 l0 0 := ⟨_, rfl⟩
  have HR := Aside0.mk hr
  rw [← hr]
  clear hn hr
  have hmf : ∀ (fn : Fn) (first cap : Array Value) (w : World), (Instr.makeFunc fn first cap).run Tryz.prog w = .ok (.func fn first cap) w := fun _ _ _ _ => rfl
  go_enter Tryz.func72, Tryz.ntmps72
  go_wp2_with fail
  go_at_call 87
  rw [HN.out]
  refine (idxF_walk A0 c0 l0 a1 ⟨w.heap.size, 0, none⟩ _ (Kd.C_below H0.out (below_alloc (Below.refl _ _) _)) (by rw [World.cell?_alloc_at _ _ _ _ rfl]; rfl)).mono ?_
  rintro e w2 ⟨rfl, hB⟩
  have HB := Aside0.mk hB
  clear hB
  rw [← HR.out, ← HN.out]
  go_wp2_with fail
  go_ret
  exact ⟨rfl, (below_alloc (Below.refl _ _) _).trans (HB.out.mono (by simp))⟩
end Go.Proofs.YtdojmdbaiddkgaaGreatDoor.Print
end
section
namespace Go.Proofs.YtdojmdbaiddkgaaGreatDoor.Print
open Go.RowKit Go.Proofs.YtdojmdbaiddkgaaGreatDoorW.PrintWords Go.Proofs.YtdojmdbaiddkgaaGreatDoorW.PrintLast
set_option linter.unusedVariables false
set_option linter.unusedSimpArgs false
mutual
def line_Param_formed.j0 : Nat → Bool → ByteArray → List ByteArray → Option (Bool)
 | 0, _, _, _ => none
 | k + 1, x20, x195000, x195001 => if x20 = true then (some false) else (line_Param_formed.l0 k x195001 (x195001.length : Int) 0)
def line_Param_formed.l0 : Nat → List ByteArray → Int → Int → Option (Bool)
 | 0, _, _, _ => none
 | k + 1, x22, x23, x24 => if x24 < x23 then (if 0 ≤ x24 then (if x24 < (x22.length : Int) then ((escape_Clean.f k (rdOf ByteArray.empty x22 x24) true).bind fun t197 => (if t197 = 0 then (line_Param_formed.l0 k x22 x23 (wrap64 (x24 + 1))) else (some false))) else (none)) else (none)) else (some true)
end
def line_Param_formed.f (k : Nat) (a0_0 : ByteArray) (l0_1 : List ByteArray) : Option (Bool) := (line_Name.f k a0_0).bind fun t195 => (if t195 = true then (if (l0_1.length : Int) < 1 then (line_Param_formed.j0 k true a0_0 l0_1) else (line_Param_formed.j0 k (decide ((l0_1.length : Int) > 60)) a0_0 l0_1)) else (line_Param_formed.j0 k true a0_0 l0_1))
set_option maxHeartbeats 8000000 in
set_option maxRecDepth 100000 in
theorem line_Param_formed.calls (k : Nat) (a0_0 : ByteArray) (A0_1 : Option Addr) (c0_1 : Nat) (l0_1 : List ByteArray) (r : Bool) (w : World) (hG : GG w) (hr0_1 : Kd.C Kd.string w A0_1 l0_1.length l0_1) (hc0_1 : l0_1.length ≤ c0_1) (h : line_Param_formed.f k a0_0 l0_1 = some r) :
  Calls Tryz.prog 71 #[.agg #[.string a0_0, .slice A0_1 l0_1.length c0_1]] w fun e w' => e = .returned (.bool r) ∧ Below w.heap.size w w' := by
 have hu77 := Tryz.underlying77; have HR0_1 := Aside0.mk hr0_1; have HC0_1 := Aside0.mk hc0_1; clear hr0_1 hc0_1; have HB := Aside0.mk (Below.refl w.heap.size w); have H : ((line_Name.f k a0_0).bind fun t195 => (if t195 = true then (if (l0_1.length : Int) < 1 then (line_Param_formed.j0 k true a0_0 l0_1) else (line_Param_formed.j0 k (decide ((l0_1.length : Int) > 60)) a0_0 l0_1)) else (line_Param_formed.j0 k true a0_0 l0_1))) = some r := h; clear h; have HC2 := Aside0.mk H; clear H
 go_enter Tryz.func71, Tryz.ntmps71
 go_upto_region 1 with (first | ((with_reducible refine gate_dst (N := 1) rfl ?_); (try (refine gate_guard (by rfl) ?_; dsimp only)); refine zbox (N := 1) #[.string a0_0, .slice A0_1 l0_1.length c0_1] 77 (fun gb194 hg w3 hbox hb => ?_); have n0_ := zw hb; have n1_ := Aside0.mk hbox; have n2_ := zg w hg; have n3_ := zg w hg; clear HB; have HB := n0_; have BK194 := n1_; have GW194 := n2_; have GE194 := n3_; clear n0_ n1_ n2_ n3_; clear hb hbox hg))
 (try simp only [Act.put, List.setIfInBounds_toArray, List.set_cons_zero, List.set_cons_succ])
 go_cut [20] (fun v20 wc => ∃ (kq : Nat) (x20_1 : Bool), v20 = .bool x20_1 ∧ Aside0 (line_Param_formed.j0 kq x20_1 a0_0 l0_1 = some r) ∧ Aside0 (kq ≤ k) ∧ Aside0 (wc.heap[gb194]? = some (.cells #[.string a0_0, (.slice A0_1 l0_1.length c0_1)] 77 (0, 0))) ∧ Aside0 (Below w.heap.size w wc))
 case first =>
  have H := HC2.out; clear HC2; replace H := zO H; obtain ⟨t195, A4, H⟩ := H; replace H := zIb H; rcases H with ⟨rfl, H⟩ | ⟨rfl, H⟩
  ·replace H := zId H; rcases H with ⟨c6, c6b0, H⟩ | ⟨c6, c6b0, H⟩
   ·have c6b1 : decide (l0_1.length < 1) = true := decide_eq_true (by omega); clear c6
    (first | rw [c6b0] | (simp only [i64_w, i32_w]; rw [c6b0]) | skip)
    have H' := Aside0.mk H; clear H; have hcz7_0 := zc0 BK194; have hcz7_1 := zc1 BK194; have hfz7_0 := zf BK194 0; have hfz7_1 := zf BK194 1
    go_wp2_with (first | ((with_reducible refine gate_callee (f := 44) rfl ?_); refine zq 7 Tryz.func44 #[.string a0_0] (line_Name.calls k a0_0 true _ zG A4.out) (fun nd => ?_)))
    go_meet
    case rel => exact ⟨_, (true), zS, H', ⟨by first | omega | exact Nat.le_refl _⟩, ⟨blk_below BK194.out zX⟩, ⟨zB⟩⟩
   ·have c6b1 : decide (l0_1.length < 1) = false := decide_eq_false (by omega); clear c6
    (first | rw [c6b0] | (simp only [i64_w, i32_w]; rw [c6b0]) | skip)
    have H' := Aside0.mk H; clear H; have hcz8_0 := zc0 BK194; have hcz8_1 := zc1 BK194; have hfz8_0 := zf BK194 0; have hfz8_1 := zf BK194 1
    go_wp2_with (first | ((with_reducible refine gate_callee (f := 44) rfl ?_); refine zq 7 Tryz.func44 #[.string a0_0] (line_Name.calls k a0_0 true _ zG A4.out) (fun nd => ?_)))
    go_meet
    case rel => exact ⟨_, (decide ((l0_1.length : Int) > 60)), zS, H', ⟨by first | omega | exact Nat.le_refl _⟩, ⟨blk_below BK194.out zX⟩, ⟨zB⟩⟩
  ·have H' := Aside0.mk H; clear H; have hcz9_0 := zc0 BK194; have hcz9_1 := zc1 BK194; have hfz9_0 := zf BK194 0; have hfz9_1 := zf BK194 1
   go_wp2_with (first | ((with_reducible refine gate_callee (f := 44) rfl ?_); refine zq 7 Tryz.func44 #[.string a0_0] (line_Name.calls k a0_0 false _ zG A4.out) (fun nd => ?_)))
   go_meet
   case rel => exact ⟨_, (true), zS, H', ⟨by first | omega | exact Nat.le_refl _⟩, ⟨blk_below BK194.out zX⟩, ⟨zB⟩⟩
 case rest =>
  clear HC2; obtain ⟨kq, x20_1, rfl, HA, HJ1, BK194, HB⟩ := hcut
  cases kq with
  | zero => exact absurd HA.out (by simp [line_Param_formed.j0])
  | succ kj1 =>
   have H := HA.out; clear HA; simp only [line_Param_formed.j0] at H; replace H := zIb H; rcases H with ⟨rfl, H⟩ | ⟨rfl, H⟩
   ·obtain rfl := Option.some.inj H; go_wp2; go_ret; exact ⟨zE, zB⟩
   ·have H' := Aside0.mk H; clear H; have hcz11_0 := zc0 BK194; have hcz11_1 := zc1 BK194; have hfz11_0 := zf BK194 0; have hfz11_1 := zf BK194 1; go_wp2
    go_loopg [24] kj1 (fun kq v24 w' => ∃ (x24_2 : Int), v24 = .int .i64 x24_2 ∧ Aside0 (line_Param_formed.l0 kq l0_1 (l0_1.length : Int) x24_2 = some r) ∧ Aside0 (kq ≤ kj1) ∧ Aside0 (w'.heap[gb194]? = some (.cells #[.string a0_0, (.slice A0_1 l0_1.length c0_1)] 77 (0, 0))) ∧ Aside0 (Below w.heap.size w w'))
    case atStart => exact ⟨(0), zS, H', ⟨Nat.le_refl _⟩, ⟨blk_below BK194.out zX⟩, ⟨zB⟩⟩
    case round =>
     clear H'; clear hcz11_0 hcz11_1 hfz11_0 hfz11_1; obtain ⟨x24_2, rfl, HA, HK2, BK194, HB⟩ := hrel
     cases gk with
     | zero => exact absurd HA.out (by simp [line_Param_formed.l0])
     | succ k2 =>
      have H := HA.out; clear HA; simp only [line_Param_formed.l0] at H; replace H := zId H; rcases H with ⟨-, c12b0, H⟩ | ⟨-, c12b0, H⟩
      ·replace H := zJd H; obtain ⟨-, c13b0, H⟩ := H; replace H := zJd H; obtain ⟨-, c14b0, H⟩ := H; replace H := zO H; obtain ⟨t197, A15, H⟩ := H; replace H := zIe H; rcases H with ⟨-, c16b0, c16b1, H⟩ | ⟨c16, c16b0, c16b1, H⟩
       ·have H' := Aside0.mk H; clear H; have p196 := zQ (0 ≤ (x24_2 : Int)); have q196 := zQ (x24_2 < (l0_1.length : Int)); obtain ⟨ad196, e196, hx196_0⟩ := Kd.at_string HR0_1.out x24_2 p196 q196
        cases e196
        replace hx196_0 := zx HB hx196_0; replace p196 := eq_true p196; replace q196 := eq_true q196
        go_wp2_with (first | ((with_reducible refine gate_callee (f := 55) rfl ?_); refine zqb 29 Tryz.func55 #[.string (rdOf ByteArray.empty l0_1 x24_2), .bool true] (escape_Clean.calls k2 (rdOf ByteArray.empty l0_1 x24_2) true t197 _ zG A15.out) (fun w17 hb => ?_); replace BK194 := zb BK194 hb; replace HB := zw hb; (try clear hb)))
        go_roundg k2
        case measure => have := HJ1.out; have := HK2.out; omega
        case rel => exact ⟨(wrap64 (x24_2 + 1)), zS, H', ⟨by have := HJ1.out; have := HK2.out; omega⟩, ⟨blk_below BK194.out zX⟩, ⟨zB⟩⟩
       ·obtain rfl := Option.some.inj H; have p196 := zQ (0 ≤ (x24_2 : Int)); have q196 := zQ (x24_2 < (l0_1.length : Int)); obtain ⟨ad196, e196, hx196_0⟩ := Kd.at_string HR0_1.out x24_2 p196 q196
        cases e196
        replace hx196_0 := zx HB hx196_0; replace p196 := eq_true p196; replace q196 := eq_true q196
        go_wp2_with (first | ((with_reducible refine gate_callee (f := 55) rfl ?_); refine zqb 29 Tryz.func55 #[.string (rdOf ByteArray.empty l0_1 x24_2), .bool true] (escape_Clean.calls k2 (rdOf ByteArray.empty l0_1 x24_2) true t197 _ zG A15.out) (fun w18 hb => ?_); replace BK194 := zb BK194 hb; replace HB := zw hb; (try clear hb)))
        go_ret; exact ⟨zE, zB⟩
      ·obtain rfl := Option.some.inj H; go_wp2; go_ret; exact ⟨zE, zB⟩
end Go.Proofs.YtdojmdbaiddkgaaGreatDoor.Print
end
section
namespace Go.Proofs.YtdojmdbaiddkgaaGreatDoor.Print
open Go.RowKit Go.Proofs.YtdojmdbaiddkgaaGreatDoorW.PrintWords Go.Proofs.YtdojmdbaiddkgaaGreatDoorW.PrintLast
set_option linter.unusedVariables false
set_option linter.unusedSimpArgs false
mutual
def line_Formed.j0 : Nat → Bool → ByteArray → List (S77) → ByteArray → Option (Bool)
 | 0, _, _, _, _ => none
 | k + 1, x20, x199000, x199001, x199002 => if x20 = true then (some false) else (line_Formed.l0 k x199001 (x199001.length : Int) 0 x199000 x199001 x199002)
def line_Formed.l0 : Nat → List (S77) → Int → Int → ByteArray → List (S77) → ByteArray → Option (Bool)
 | 0, _, _, _, _, _, _ => none
 | k + 1, x22, x23, x24, x199000, x199001, x199002 => if x24 < x23 then (if 0 ≤ x24 then (if x24 < (x22.length : Int) then ((line_Param_formed.f k ((rd_T77 x22 x24).f0) ((rd_T77 x22 x24).f1)).bind fun t203 => (if t203 = true then (if x24 ≤ (x199001.length : Int) then ((line_at.f (x199001.take (x24 : Int).toNat) ((rd_T77 x22 x24).f0)).bind fun t208 => (if t208 ≥ 0 then (some false) else (line_Formed.l0 k x22 x23 (wrap64 (x24 + 1)) x199000 x199001 x199002))) else (none)) else (some false))) else (none)) else (none)) else (some true)
end
def line_Formed.f (k : Nat) (a0_0 : ByteArray) (l0_1 : List (S77)) (a0_2 : ByteArray) : Option (Bool) := (line_Name.f k a0_0).bind fun t199 => (if t199 = true then (if (l0_1.length : Int) > 60 then (line_Formed.j0 k true a0_0 l0_1 a0_2) else ((escape_Clean.f k a0_2 false).bind fun t200 => (line_Formed.j0 k (t200 != 0) a0_0 l0_1 a0_2))) else (line_Formed.j0 k true a0_0 l0_1 a0_2))
def line_Formed.T6 : Bool × List (List Nat × List Nat) := (true, [([], []), ([0], [0]), ([1], [1]), ([2, 1], [2]), ([3], [3]), ([4, 3], [3, 4]), ([3], [3]), ([5, 6, 3], [3, 5, 6]), ([3], [3]), ([8, 3], [3, 8]), ([7, 9, 3, 3], [3, 7, 9]), ([10, 3], [3, 10]), ([3, 11], [3, 11])])
def line_Formed.B6 : List Nat := [0, 1, 3, 7, 15, 31, 15, 127, 15, 271, 1023, 2047, 4095]
theorem line_Formed.tab6 : rtab .any (opsOf Tryz.f45 6) = line_Formed.T6 := by kernel_rfl
theorem line_Formed.bits6 : waitsOk line_Formed.T6.2 line_Formed.B6 = true := by kernel_rfl
set_option maxHeartbeats 8000000 in
set_option maxRecDepth 100000 in
theorem line_Formed.calls (k : Nat) (a0_0 : ByteArray) (A0_1 : Option Addr) (c0_1 : Nat) (l0_1 : List (S77)) (a0_2 : ByteArray) (r : Bool) (w : World) (hG : GG w) (hr0_1 : Kd.C k77 w A0_1 l0_1.length l0_1) (hc0_1 : l0_1.length ≤ c0_1) (h : line_Formed.f k a0_0 l0_1 a0_2 = some r) :
  Calls Tryz.prog 45 #[.agg #[.string a0_0, .slice A0_1 l0_1.length c0_1, .string a0_2]] w fun e w' => e = .returned (.bool r) ∧ Below w.heap.size w w' := by
 have hu49 := Tryz.underlying49; have hu77 := Tryz.underlying77; have HR0_1 := Aside0.mk hr0_1; have HC0_1 := Aside0.mk hc0_1; clear hr0_1 hc0_1; have HB := Aside0.mk (Below.refl w.heap.size w); have H : ((line_Name.f k a0_0).bind fun t199 => (if t199 = true then (if (l0_1.length : Int) > 60 then (line_Formed.j0 k true a0_0 l0_1 a0_2) else ((escape_Clean.f k a0_2 false).bind fun t200 => (line_Formed.j0 k (t200 != 0) a0_0 l0_1 a0_2))) else (line_Formed.j0 k true a0_0 l0_1 a0_2))) = some r := h; clear h; have HC2 := Aside0.mk H; clear H
 go_enter Tryz.func45, Tryz.ntmps45
 go_upto_region 1 with (first | ((with_reducible refine gate_dst (N := 1) rfl ?_); (try (refine gate_guard (by rfl) ?_; dsimp only)); refine zbox (N := 1) #[.string a0_0, .slice A0_1 l0_1.length c0_1, .string a0_2] 49 (fun gb198 hg w3 hbox hb => ?_); have n0_ := zw hb; have n1_ := Aside0.mk hbox; have n2_ := zg w hg; have n3_ := zg w hg; clear HB; have HB := n0_; have BK198 := n1_; have GW198 := n2_; have GE198 := n3_; clear n0_ n1_ n2_ n3_; clear hb hbox hg))
 (try simp only [Act.put, List.setIfInBounds_toArray, List.set_cons_zero, List.set_cons_succ])
 go_cut [20] (fun v20 wc => ∃ (kq : Nat) (x20_1 : Bool), v20 = .bool x20_1 ∧ Aside0 (line_Formed.j0 kq x20_1 a0_0 l0_1 a0_2 = some r) ∧ Aside0 (kq ≤ k) ∧ Aside0 (wc.heap[gb198]? = some (.cells #[.string a0_0, (.slice A0_1 l0_1.length c0_1), .string a0_2] 49 (0, 0))) ∧ Aside0 (Below w.heap.size w wc))
 case first =>
  have H := HC2.out; clear HC2; replace H := zO H; obtain ⟨t199, A4, H⟩ := H; replace H := zIb H; rcases H with ⟨rfl, H⟩ | ⟨rfl, H⟩
  ·replace H := zI H; rcases H with ⟨c6, H⟩ | ⟨c6, H⟩
   ·have c6b0 : decide (60 < (l0_1.length : Int)) = true := decide_eq_true c6; have c6b1 : decide (60 < l0_1.length) = true := decide_eq_true (by omega); clear c6
    (first | rw [c6b0] | (simp only [i64_w, i32_w]; rw [c6b0]) | skip)
    have H' := Aside0.mk H; clear H; have hcz7_0 := zc0 BK198; have hcz7_1 := zc1 BK198; have hcz7_2 := zc2 BK198; have hfz7_0 := zf BK198 0; have hfz7_1 := zf BK198 1; have hfz7_2 := zf BK198 2
    go_wp2_with (first | ((with_reducible refine gate_callee (f := 44) rfl ?_); refine zq 7 Tryz.func44 #[.string a0_0] (line_Name.calls k a0_0 true _ zG A4.out) (fun nd => ?_)))
    go_meet
    case rel => exact ⟨_, (true), zS, H', ⟨by first | omega | exact Nat.le_refl _⟩, ⟨blk_below BK198.out zX⟩, ⟨zB⟩⟩
   ·have c6b0 : decide (60 < (l0_1.length : Int)) = false := decide_eq_false c6; have c6b1 : decide (60 < l0_1.length) = false := decide_eq_false (by omega); clear c6
    (first | rw [c6b0] | (simp only [i64_w, i32_w]; rw [c6b0]) | skip)
    replace H := zO H; obtain ⟨t200, A8, H⟩ := H; have H' := Aside0.mk H; clear H; have hcz9_0 := zc0 BK198; have hcz9_1 := zc1 BK198; have hcz9_2 := zc2 BK198; have hfz9_0 := zf BK198 0; have hfz9_1 := zf BK198 1; have hfz9_2 := zf BK198 2
    go_wp2_with (first | ((with_reducible refine gate_callee (f := 44) rfl ?_); refine zq 7 Tryz.func44 #[.string a0_0] (line_Name.calls k a0_0 true _ zG A4.out) (fun nd => ?_)) | (go_at_call 55; (with_reducible refine (escape_Clean.calls k a0_2 false t200 _ zG A8.out).mono ?_); rintro e w10 ⟨rfl, hb⟩; replace BK198 := zb BK198 hb; replace HB := zw hb; (try clear hb)))
    go_meet
    case rel => exact ⟨_, ((t200 != 0)), zS, H', ⟨by first | omega | exact Nat.le_refl _⟩, ⟨blk_below BK198.out zX⟩, ⟨zB⟩⟩
  ·have H' := Aside0.mk H; clear H; have hcz11_0 := zc0 BK198; have hcz11_1 := zc1 BK198; have hcz11_2 := zc2 BK198; have hfz11_0 := zf BK198 0; have hfz11_1 := zf BK198 1; have hfz11_2 := zf BK198 2
   go_wp2_with (first | ((with_reducible refine gate_callee (f := 44) rfl ?_); refine zq 7 Tryz.func44 #[.string a0_0] (line_Name.calls k a0_0 false _ zG A4.out) (fun nd => ?_)))
   go_meet
   case rel => exact ⟨_, (true), zS, H', ⟨by first | omega | exact Nat.le_refl _⟩, ⟨blk_below BK198.out zX⟩, ⟨zB⟩⟩
 case rest =>
  clear HC2; obtain ⟨kq, x20_1, rfl, HA, HJ1, BK198, HB⟩ := hcut
  cases kq with
  | zero => exact absurd HA.out (by simp [line_Formed.j0])
  | succ kj1 =>
   have H := HA.out; clear HA; simp only [line_Formed.j0] at H; replace H := zIb H; rcases H with ⟨rfl, H⟩ | ⟨rfl, H⟩
   ·obtain rfl := Option.some.inj H; go_wp2; go_ret; exact ⟨zE, zB⟩
   ·have H' := Aside0.mk H; clear H; have hcz13_0 := zc0 BK198; have hcz13_1 := zc1 BK198; have hcz13_2 := zc2 BK198; have hfz13_0 := zf BK198 0; have hfz13_1 := zf BK198 1; have hfz13_2 := zf BK198 2; go_wp2
    go_loopg [24] kj1 (fun kq v24 w' => ∃ (x24_2 : Int), v24 = .int .i64 x24_2 ∧ Aside0 (line_Formed.l0 kq l0_1 (l0_1.length : Int) x24_2 a0_0 l0_1 a0_2 = some r) ∧ Aside0 (kq ≤ kj1) ∧ Aside0 (w'.heap[gb198]? = some (.cells #[.string a0_0, (.slice A0_1 l0_1.length c0_1), .string a0_2] 49 (0, 0))) ∧ Aside0 (Below w.heap.size w w'))
    case atStart => exact ⟨(0), zS, H', ⟨Nat.le_refl _⟩, ⟨blk_below BK198.out zX⟩, ⟨zB⟩⟩
    case round =>
     clear H'; clear hcz13_0 hcz13_1 hcz13_2 hfz13_0 hfz13_1 hfz13_2; obtain ⟨x24_2, rfl, HA, HK2, BK198, HB⟩ := hrel
     cases gk with
     | zero => exact absurd HA.out (by simp [line_Formed.l0])
     | succ k2 =>
      have H := HA.out; clear HA; simp only [line_Formed.l0] at H; replace H := zId H; rcases H with ⟨-, c14b0, H⟩ | ⟨-, c14b0, H⟩
      ·replace H := zJd H; obtain ⟨-, c15b0, H⟩ := H; replace H := zJd H; obtain ⟨-, c16b0, H⟩ := H; replace H := zO H; obtain ⟨t203, A17, H⟩ := H; replace H := zIb H; rcases H with ⟨rfl, H⟩ | ⟨rfl, H⟩
       ·have c19b0 := eq_true (of_decide_eq_true (by first | (with_reducible assumption) | assumption) : 0 ≤ x24_2); replace H := zJ H; obtain ⟨c20, H⟩ := H; have c20b0 := eq_true c20; have c20b1 : decide (x24_2 ≤ (l0_1.length : Int)) = true := decide_eq_true c20; clear c20; obtain ⟨y204, hy204⟩ : ∃ y_ : List (S77), y_ = (l0_1.take (x24_2 : Int).toNat) := ⟨_, rfl⟩; replace H : ((line_at.f y204 ((rd_T77 l0_1 x24_2).f0)).bind fun t208 => (if t208 ≥ 0 then (some false) else (line_Formed.l0 k2 l0_1 (l0_1.length : Int) (wrap64 (x24_2 + 1)) a0_0 l0_1 a0_2))) = some r := by first | (rw [hy204]; with_reducible exact H) | (have H2_ := (Option.bind_some _ _).symm.trans H; rw [hy204]; with_reducible exact H2_) | (have H2_ := (Option.bind_some _ _).symm.trans H; with_reducible exact H2_) | with_reducible exact H | (rw [hy204]; exact H) | exact H
        have Ny204 := Aside0.mk hy204; clear hy204; replace H := zO H; obtain ⟨t208, A21, H⟩ := H; replace H := zI H; rcases H with ⟨c22, H⟩ | ⟨c22, H⟩
        ·have c22b0 : decide (0 ≤ t208) = true := decide_eq_true c22; clear c22; obtain rfl := Option.some.inj H; have p201 := zQ (0 ≤ (x24_2 : Int)); have q201 := zQ (x24_2 < (l0_1.length : Int)); obtain ⟨ad201, A201_1, c201_1, e201, hx201_0, hx201_1, hl201_1, hi201_1⟩ := at_T77 HR0_1.out x24_2 p201 q201
         cases e201
         replace hx201_0 := zx HB hx201_0; replace hx201_1 := zx HB hx201_1; have HR201_1 := Aside0.mk hi201_1; have HC201_1 := Aside0.mk hl201_1; clear hi201_1 hl201_1; replace p201 := eq_true p201; replace q201 := eq_true q201
         try go_wp2_with (first | ((with_reducible refine gate_dst (N := 4) rfl ?_); (try (refine gate_guard (by rfl) ?_; dsimp only)); refine zbox (N := 4) #[.string (⟨#[]⟩ : ByteArray), .slice none 0 0] 77 (fun gb202 hg w23 hbox hb => ?_); replace BK202 := Aside0.mk hbox; replace GW202 := zg w hg; replace GE202 := zg w hg; replace HB := zw hb; replace NB198_202 := zn BK198 hg; replace NB202_198 := zm BK198 hg; replace BK198 := zb BK198 hb; clear hb hbox hg; have hnb24 := NB202_198.out; have hnc24 := NB198_202.out; have hcz25_0 := zc0 BK202; have hcz25_1 := zc1 BK202; have hfz25_0 := zf BK202 0; have hfz25_1 := zf BK202 1))
         have n0_ : Aside0 (((w23.setCell ⟨gb202, 0, none⟩ (.string ((rd_T77 l0_1 x24_2).f0))).setCell ⟨gb202, 1, none⟩ (.slice A201_1 ((rd_T77 l0_1 x24_2).f1).length c201_1)).heap[gb198]? = some (.cells #[.string a0_0, .slice (some ad201) l0_1.length c0_1, .string a0_2] 49 (0, 0))) := ⟨by (with_reducible repeat (first | refine blk_drewN ?_ _ | refine blk_drew ?_ | refine blk_alloc ?_ _)); refine blk_far ?_ NB198_202.out _; (with_reducible repeat (first | refine blk_drewN ?_ _ | refine blk_drew ?_ | refine blk_alloc ?_ _)); refine blk_far ?_ NB198_202.out _; (with_reducible repeat (first | refine blk_drewN ?_ _ | refine blk_drew ?_ | refine blk_alloc ?_ _)); exact BK198.out⟩
         have n1_ : Aside0 (((w23.setCell ⟨gb202, 0, none⟩ (.string ((rd_T77 l0_1 x24_2).f0))).setCell ⟨gb202, 1, none⟩ (.slice A201_1 ((rd_T77 l0_1 x24_2).f1).length c201_1)).heap[gb202]? = some (.cells #[.string ((rd_T77 l0_1 x24_2).f0), .slice A201_1 ((rd_T77 l0_1 x24_2).f1).length c201_1] 77 (0, 0))) := ⟨by (with_reducible repeat (first | refine blk_drewN ?_ _ | refine blk_drew ?_ | refine blk_alloc ?_ _)); refine blk_put (cs := #[.string ((rd_T77 l0_1 x24_2).f0), .slice none 0 0]) ?_ 1 _ rfl; (with_reducible repeat (first | refine blk_drewN ?_ _ | refine blk_drew ?_ | refine blk_alloc ?_ _)); refine blk_put (cs := #[.string (⟨#[]⟩ : ByteArray), .slice none 0 0]) ?_ 0 _ rfl; (with_reducible repeat (first | refine blk_drewN ?_ _ | refine blk_drew ?_ | refine blk_alloc ?_ _)); exact BK202.out⟩
         have n2_ : Aside0 (Below w.heap.size w ((w23.setCell ⟨gb202, 0, none⟩ (.string ((rd_T77 l0_1 x24_2).f0))).setCell ⟨gb202, 1, none⟩ (.slice A201_1 ((rd_T77 l0_1 x24_2).f1).length c201_1))) := ⟨zB⟩; (try clear BK198); (try clear BK202); (try clear HB); generalize ((w23.setCell ⟨gb202, 0, none⟩ (.string ((rd_T77 l0_1 x24_2).f0))).setCell ⟨gb202, 1, none⟩ (.slice A201_1 ((rd_T77 l0_1 x24_2).f1).length c201_1)) = w26 at n0_ n1_ n2_ ⊢; have BK198 := n0_; have BK202 := n1_; have HB := n2_; clear n0_ n1_ n2_; replace BK198 := Aside0.mk (blk_drew BK198.out); replace BK202 := Aside0.mk (blk_drew BK202.out); replace HB := Aside0.mk (below_drew1 HB.out)
         refine start_ (n := 13) (S := fun w' => w'.cell? ⟨gb202, 0, none⟩ = some (.string ((rd_T77 l0_1 x24_2).f0)) ∧ w'.cell? ⟨gb202, 1, none⟩ = some (.slice A201_1 ((rd_T77 l0_1 x24_2).f1).length c201_1) ∧ w'.cell? ⟨gb198, 0, none⟩ = some (.string a0_0) ∧ w'.cell? ⟨gb198, 1, none⟩ = some (.slice (some ad201) l0_1.length c0_1) ∧ w'.cell? ⟨gb198, 2, none⟩ = some (.string a0_2)) (ds := []) (bs 13 0) (by kernel_rfl) rfl rfl ⟨(blk_cell BK202.out 0).trans rfl, (blk_cell BK202.out 1).trans rfl, (blk_cell BK198.out 0).trans rfl, (blk_cell BK198.out 1).trans rfl, (blk_cell BK198.out 2).trans rfl⟩ (fun hHeld => ?_); refine with_tabW line_Formed.tab6 line_Formed.bits6 (fun HT_ HW_ => ?_); generalize w26.drew = w27 at BK198 BK202 HB hHeld ⊢; refine zt 0 29 (bs 13 1) ?_; refine one_ (i := 1) (N := some 30) (bs 13 3) rfl rfl (one_of HT_.out (by kernel_rfl)) (by decide) (fun K hK => ?_)
         refine goes_ Tryz.func71 (by kernel_rfl) rfl #[.agg #[.string ((rd_T77 l0_1 x24_2).f0), .slice A201_1 ((rd_T77 l0_1 x24_2).f1).length c201_1]] (by rfl) rfl rfl zA ?_
         with_reducible refine (line_Param_formed.calls k2 ((rd_T77 l0_1 x24_2).f0) _ _ ((rd_T77 l0_1 x24_2).f1) true _ zG ?side1 ?side2 A17.out).mono ?_
         (case side1 => exact Kd.C_below (Kd.C_below HR201_1.out HB.out) zX)
         (case side2 => exact HC201_1.out)
         rintro e w28 ⟨rfl, hb⟩; refine ⟨_, rfl, ?_⟩; replace BK198 := zb BK198 hb; replace BK202 := zb BK202 hb; replace HB := zw hb; (try clear hb); (try clear hb2); (try clear hk); (try clear hi); have q29 := zQ ((x24_2 : Int) ≤ ((l0_1.length : Int) : Int)); obtain ⟨i029, hi029, _, hsz29, _⟩ := info_parts info77; have hroom29 : l0_1.length ≤ c0_1 := HC0_1.out; have hC29 : Kd.C k77 _ (some ad201) l0_1.length l0_1 := HR0_1.out; have hcut29 := cut_to (P := Tryz.prog) 47 77 .i64 Tryz.underlying47 hi029 (some ad201) l0_1.length c0_1 x24_2 (of_decide_eq_true (by first | (with_reducible assumption) | assumption)) q29 hroom29; have hr29 := Kd.C_take (m := (x24_2 : Int).toNat) hC29 (by omega)
         have hy29 : y204.length = (x24_2 : Int).toNat := (by rw [Ny204.out, List.length_take]; omega); rw [← Ny204.out] at hr29; rw [← hy29] at hcut29; have HR207 := Aside0.mk hr29; have HC207 := Aside0.mk (show y204.length ≤ c0_1 from by omega); clear hr29 hC29 hroom29 hi029 hsz29; have KY29 := Aside0.mk hy29; clear hy29; replace q29 := eq_true q29; refine hK.out _ _ ⟨(blk_cell BK202.out 0).trans rfl, (blk_cell BK202.out 1).trans rfl, (blk_cell BK198.out 0).trans rfl, (blk_cell BK198.out 1).trans rfl, (blk_cell BK198.out 2).trans rfl⟩ (fun hHeld => ?_); clear hK K; refine zr ?_; refine zp 2 31 (bs 13 7) ?_; refine zp 3 32 (bs 13 15) ?_; refine zp 4 33 (bs 13 31) ?_; refine zp 6 35 (bs 13 95) ?_; refine zp 8 37 (bs 13 351) ?_; refine zt 5 34 (bs 13 383) ?_; refine zp 7 36 (bs 13 511) ?_; refine zt 9 38 (bs 13 1023) ?_
         refine one_ (i := 10) (N := some 39) (bs 13 2047) rfl rfl (one_of HT_.out (by kernel_rfl)) (by decide) (fun K hK => ?_); refine goes_ Tryz.func72 (by kernel_rfl) rfl #[.slice (some ad201) y204.length c0_1, .string ((rd_T77 l0_1 x24_2).f0)] (by rfl) rfl rfl zA ?_
         with_reducible refine (line_at.calls _ _ y204 ((rd_T77 l0_1 x24_2).f0) t208 _ zG ?side1 ?side2 A21.out).mono ?_
         (case side1 => exact Kd.C_below (Kd.C_below HR207.out HB.out) zX)
         (case side2 => exact HC207.out)
         rintro e w30 ⟨rfl, hb⟩; refine ⟨_, rfl, ?_⟩; replace BK198 := zb BK198 hb; replace BK202 := zb BK202 hb; replace HB := zw hb; (try clear hb); (try clear hb2); (try clear hk); (try clear hi); refine hK.out _ _ ⟨(blk_cell BK202.out 0).trans rfl, (blk_cell BK202.out 1).trans rfl, (blk_cell BK198.out 0).trans rfl, (blk_cell BK198.out 1).trans rfl, (blk_cell BK198.out 2).trans rfl⟩ (fun hHeld => ?_); clear hK K; refine zr ?_; refine zp 11 40 (bs 13 4095) ?_; refine zp 12 41 (bs 13 8191) ?_; refine done_ (done_of HT_.out (by kernel_rfl)) ?_
         try go_wp2
         go_ret; exact ⟨zE, zB⟩
        ·have c22b0 : decide (0 ≤ t208) = false := decide_eq_false c22; clear c22; have H' := Aside0.mk H; clear H; have p201 := zQ (0 ≤ (x24_2 : Int)); have q201 := zQ (x24_2 < (l0_1.length : Int)); obtain ⟨ad201, A201_1, c201_1, e201, hx201_0, hx201_1, hl201_1, hi201_1⟩ := at_T77 HR0_1.out x24_2 p201 q201
         cases e201
         replace hx201_0 := zx HB hx201_0; replace hx201_1 := zx HB hx201_1; have HR201_1 := Aside0.mk hi201_1; have HC201_1 := Aside0.mk hl201_1; clear hi201_1 hl201_1; replace p201 := eq_true p201; replace q201 := eq_true q201
         try go_wp2_with (first | ((with_reducible refine gate_dst (N := 4) rfl ?_); (try (refine gate_guard (by rfl) ?_; dsimp only)); refine zbox (N := 4) #[.string (⟨#[]⟩ : ByteArray), .slice none 0 0] 77 (fun gb202 hg w31 hbox hb => ?_); replace BK202 := Aside0.mk hbox; replace GW202 := zg w hg; replace GE202 := zg w hg; replace HB := zw hb; replace NB198_202 := zn BK198 hg; replace NB202_198 := zm BK198 hg; replace BK198 := zb BK198 hb; clear hb hbox hg; have hnb32 := NB202_198.out; have hnc32 := NB198_202.out; have hcz33_0 := zc0 BK202; have hcz33_1 := zc1 BK202; have hfz33_0 := zf BK202 0; have hfz33_1 := zf BK202 1))
         have n0_ : Aside0 (((w31.setCell ⟨gb202, 0, none⟩ (.string ((rd_T77 l0_1 x24_2).f0))).setCell ⟨gb202, 1, none⟩ (.slice A201_1 ((rd_T77 l0_1 x24_2).f1).length c201_1)).heap[gb198]? = some (.cells #[.string a0_0, .slice (some ad201) l0_1.length c0_1, .string a0_2] 49 (0, 0))) := ⟨by (with_reducible repeat (first | refine blk_drewN ?_ _ | refine blk_drew ?_ | refine blk_alloc ?_ _)); refine blk_far ?_ NB198_202.out _; (with_reducible repeat (first | refine blk_drewN ?_ _ | refine blk_drew ?_ | refine blk_alloc ?_ _)); refine blk_far ?_ NB198_202.out _; (with_reducible repeat (first | refine blk_drewN ?_ _ | refine blk_drew ?_ | refine blk_alloc ?_ _)); exact BK198.out⟩
         have n1_ : Aside0 (((w31.setCell ⟨gb202, 0, none⟩ (.string ((rd_T77 l0_1 x24_2).f0))).setCell ⟨gb202, 1, none⟩ (.slice A201_1 ((rd_T77 l0_1 x24_2).f1).length c201_1)).heap[gb202]? = some (.cells #[.string ((rd_T77 l0_1 x24_2).f0), .slice A201_1 ((rd_T77 l0_1 x24_2).f1).length c201_1] 77 (0, 0))) := ⟨by (with_reducible repeat (first | refine blk_drewN ?_ _ | refine blk_drew ?_ | refine blk_alloc ?_ _)); refine blk_put (cs := #[.string ((rd_T77 l0_1 x24_2).f0), .slice none 0 0]) ?_ 1 _ rfl; (with_reducible repeat (first | refine blk_drewN ?_ _ | refine blk_drew ?_ | refine blk_alloc ?_ _)); refine blk_put (cs := #[.string (⟨#[]⟩ : ByteArray), .slice none 0 0]) ?_ 0 _ rfl; (with_reducible repeat (first | refine blk_drewN ?_ _ | refine blk_drew ?_ | refine blk_alloc ?_ _)); exact BK202.out⟩
         have n2_ : Aside0 (Below w.heap.size w ((w31.setCell ⟨gb202, 0, none⟩ (.string ((rd_T77 l0_1 x24_2).f0))).setCell ⟨gb202, 1, none⟩ (.slice A201_1 ((rd_T77 l0_1 x24_2).f1).length c201_1))) := ⟨zB⟩; (try clear BK198); (try clear BK202); (try clear HB); generalize ((w31.setCell ⟨gb202, 0, none⟩ (.string ((rd_T77 l0_1 x24_2).f0))).setCell ⟨gb202, 1, none⟩ (.slice A201_1 ((rd_T77 l0_1 x24_2).f1).length c201_1)) = w34 at n0_ n1_ n2_ ⊢; have BK198 := n0_; have BK202 := n1_; have HB := n2_; clear n0_ n1_ n2_; replace BK198 := Aside0.mk (blk_drew BK198.out); replace BK202 := Aside0.mk (blk_drew BK202.out); replace HB := Aside0.mk (below_drew1 HB.out)
         refine start_ (n := 13) (S := fun w' => w'.cell? ⟨gb202, 0, none⟩ = some (.string ((rd_T77 l0_1 x24_2).f0)) ∧ w'.cell? ⟨gb202, 1, none⟩ = some (.slice A201_1 ((rd_T77 l0_1 x24_2).f1).length c201_1) ∧ w'.cell? ⟨gb198, 0, none⟩ = some (.string a0_0) ∧ w'.cell? ⟨gb198, 1, none⟩ = some (.slice (some ad201) l0_1.length c0_1) ∧ w'.cell? ⟨gb198, 2, none⟩ = some (.string a0_2)) (ds := []) (bs 13 0) (by kernel_rfl) rfl rfl ⟨(blk_cell BK202.out 0).trans rfl, (blk_cell BK202.out 1).trans rfl, (blk_cell BK198.out 0).trans rfl, (blk_cell BK198.out 1).trans rfl, (blk_cell BK198.out 2).trans rfl⟩ (fun hHeld => ?_); refine with_tabW line_Formed.tab6 line_Formed.bits6 (fun HT_ HW_ => ?_); generalize w34.drew = w35 at BK198 BK202 HB hHeld ⊢; refine zt 0 29 (bs 13 1) ?_; refine one_ (i := 1) (N := some 30) (bs 13 3) rfl rfl (one_of HT_.out (by kernel_rfl)) (by decide) (fun K hK => ?_)
         refine goes_ Tryz.func71 (by kernel_rfl) rfl #[.agg #[.string ((rd_T77 l0_1 x24_2).f0), .slice A201_1 ((rd_T77 l0_1 x24_2).f1).length c201_1]] (by rfl) rfl rfl zA ?_
         with_reducible refine (line_Param_formed.calls k2 ((rd_T77 l0_1 x24_2).f0) _ _ ((rd_T77 l0_1 x24_2).f1) true _ zG ?side1 ?side2 A17.out).mono ?_
         (case side1 => exact Kd.C_below (Kd.C_below HR201_1.out HB.out) zX)
         (case side2 => exact HC201_1.out)
         rintro e w36 ⟨rfl, hb⟩; refine ⟨_, rfl, ?_⟩; replace BK198 := zb BK198 hb; replace BK202 := zb BK202 hb; replace HB := zw hb; (try clear hb); (try clear hb2); (try clear hk); (try clear hi); have q37 := zQ ((x24_2 : Int) ≤ ((l0_1.length : Int) : Int)); obtain ⟨i037, hi037, _, hsz37, _⟩ := info_parts info77; have hroom37 : l0_1.length ≤ c0_1 := HC0_1.out; have hC37 : Kd.C k77 _ (some ad201) l0_1.length l0_1 := HR0_1.out; have hcut37 := cut_to (P := Tryz.prog) 47 77 .i64 Tryz.underlying47 hi037 (some ad201) l0_1.length c0_1 x24_2 (of_decide_eq_true (by first | (with_reducible assumption) | assumption)) q37 hroom37; have hr37 := Kd.C_take (m := (x24_2 : Int).toNat) hC37 (by omega)
         have hy37 : y204.length = (x24_2 : Int).toNat := (by rw [Ny204.out, List.length_take]; omega); rw [← Ny204.out] at hr37; rw [← hy37] at hcut37; have HR207 := Aside0.mk hr37; have HC207 := Aside0.mk (show y204.length ≤ c0_1 from by omega); clear hr37 hC37 hroom37 hi037 hsz37; have KY37 := Aside0.mk hy37; clear hy37; replace q37 := eq_true q37; refine hK.out _ _ ⟨(blk_cell BK202.out 0).trans rfl, (blk_cell BK202.out 1).trans rfl, (blk_cell BK198.out 0).trans rfl, (blk_cell BK198.out 1).trans rfl, (blk_cell BK198.out 2).trans rfl⟩ (fun hHeld => ?_); clear hK K; refine zr ?_; refine zp 2 31 (bs 13 7) ?_; refine zp 3 32 (bs 13 15) ?_; refine zp 4 33 (bs 13 31) ?_; refine zp 6 35 (bs 13 95) ?_; refine zp 8 37 (bs 13 351) ?_; refine zt 5 34 (bs 13 383) ?_; refine zp 7 36 (bs 13 511) ?_; refine zt 9 38 (bs 13 1023) ?_
         refine one_ (i := 10) (N := some 39) (bs 13 2047) rfl rfl (one_of HT_.out (by kernel_rfl)) (by decide) (fun K hK => ?_); refine goes_ Tryz.func72 (by kernel_rfl) rfl #[.slice (some ad201) y204.length c0_1, .string ((rd_T77 l0_1 x24_2).f0)] (by rfl) rfl rfl zA ?_
         with_reducible refine (line_at.calls _ _ y204 ((rd_T77 l0_1 x24_2).f0) t208 _ zG ?side1 ?side2 A21.out).mono ?_
         (case side1 => exact Kd.C_below (Kd.C_below HR207.out HB.out) zX)
         (case side2 => exact HC207.out)
         rintro e w38 ⟨rfl, hb⟩; refine ⟨_, rfl, ?_⟩; replace BK198 := zb BK198 hb; replace BK202 := zb BK202 hb; replace HB := zw hb; (try clear hb); (try clear hb2); (try clear hk); (try clear hi); refine hK.out _ _ ⟨(blk_cell BK202.out 0).trans rfl, (blk_cell BK202.out 1).trans rfl, (blk_cell BK198.out 0).trans rfl, (blk_cell BK198.out 1).trans rfl, (blk_cell BK198.out 2).trans rfl⟩ (fun hHeld => ?_); clear hK K; refine zr ?_; refine zp 11 40 (bs 13 4095) ?_; refine zp 12 41 (bs 13 8191) ?_; refine done_ (done_of HT_.out (by kernel_rfl)) ?_
         try go_wp2
         go_roundg k2
         case measure => have := HJ1.out; have := HK2.out; omega
         case rel => exact ⟨(wrap64 (x24_2 + 1)), zS, H', ⟨by have := HJ1.out; have := HK2.out; omega⟩, ⟨blk_below BK198.out zX⟩, ⟨zB⟩⟩
       ·obtain rfl := Option.some.inj H; have p201 := zQ (0 ≤ (x24_2 : Int)); have q201 := zQ (x24_2 < (l0_1.length : Int)); obtain ⟨ad201, A201_1, c201_1, e201, hx201_0, hx201_1, hl201_1, hi201_1⟩ := at_T77 HR0_1.out x24_2 p201 q201
        cases e201
        replace hx201_0 := zx HB hx201_0; replace hx201_1 := zx HB hx201_1; have HR201_1 := Aside0.mk hi201_1; have HC201_1 := Aside0.mk hl201_1; clear hi201_1 hl201_1; replace p201 := eq_true p201; replace q201 := eq_true q201
        try go_wp2_with (first | ((with_reducible refine gate_dst (N := 4) rfl ?_); (try (refine gate_guard (by rfl) ?_; dsimp only)); refine zbox (N := 4) #[.string (⟨#[]⟩ : ByteArray), .slice none 0 0] 77 (fun gb202 hg w39 hbox hb => ?_); replace BK202 := Aside0.mk hbox; replace GW202 := zg w hg; replace GE202 := zg w hg; replace HB := zw hb; replace NB198_202 := zn BK198 hg; replace NB202_198 := zm BK198 hg; replace BK198 := zb BK198 hb; clear hb hbox hg; have hnb40 := NB202_198.out; have hnc40 := NB198_202.out; have hcz41_0 := zc0 BK202; have hcz41_1 := zc1 BK202; have hfz41_0 := zf BK202 0; have hfz41_1 := zf BK202 1))
        have n0_ : Aside0 (((w39.setCell ⟨gb202, 0, none⟩ (.string ((rd_T77 l0_1 x24_2).f0))).setCell ⟨gb202, 1, none⟩ (.slice A201_1 ((rd_T77 l0_1 x24_2).f1).length c201_1)).heap[gb198]? = some (.cells #[.string a0_0, .slice (some ad201) l0_1.length c0_1, .string a0_2] 49 (0, 0))) := ⟨by (with_reducible repeat (first | refine blk_drewN ?_ _ | refine blk_drew ?_ | refine blk_alloc ?_ _)); refine blk_far ?_ NB198_202.out _; (with_reducible repeat (first | refine blk_drewN ?_ _ | refine blk_drew ?_ | refine blk_alloc ?_ _)); refine blk_far ?_ NB198_202.out _; (with_reducible repeat (first | refine blk_drewN ?_ _ | refine blk_drew ?_ | refine blk_alloc ?_ _)); exact BK198.out⟩
        have n1_ : Aside0 (((w39.setCell ⟨gb202, 0, none⟩ (.string ((rd_T77 l0_1 x24_2).f0))).setCell ⟨gb202, 1, none⟩ (.slice A201_1 ((rd_T77 l0_1 x24_2).f1).length c201_1)).heap[gb202]? = some (.cells #[.string ((rd_T77 l0_1 x24_2).f0), .slice A201_1 ((rd_T77 l0_1 x24_2).f1).length c201_1] 77 (0, 0))) := ⟨by (with_reducible repeat (first | refine blk_drewN ?_ _ | refine blk_drew ?_ | refine blk_alloc ?_ _)); refine blk_put (cs := #[.string ((rd_T77 l0_1 x24_2).f0), .slice none 0 0]) ?_ 1 _ rfl; (with_reducible repeat (first | refine blk_drewN ?_ _ | refine blk_drew ?_ | refine blk_alloc ?_ _)); refine blk_put (cs := #[.string (⟨#[]⟩ : ByteArray), .slice none 0 0]) ?_ 0 _ rfl; (with_reducible repeat (first | refine blk_drewN ?_ _ | refine blk_drew ?_ | refine blk_alloc ?_ _)); exact BK202.out⟩
        have n2_ : Aside0 (Below w.heap.size w ((w39.setCell ⟨gb202, 0, none⟩ (.string ((rd_T77 l0_1 x24_2).f0))).setCell ⟨gb202, 1, none⟩ (.slice A201_1 ((rd_T77 l0_1 x24_2).f1).length c201_1))) := ⟨zB⟩; (try clear BK198); (try clear BK202); (try clear HB); generalize ((w39.setCell ⟨gb202, 0, none⟩ (.string ((rd_T77 l0_1 x24_2).f0))).setCell ⟨gb202, 1, none⟩ (.slice A201_1 ((rd_T77 l0_1 x24_2).f1).length c201_1)) = w42 at n0_ n1_ n2_ ⊢; have BK198 := n0_; have BK202 := n1_; have HB := n2_; clear n0_ n1_ n2_; replace BK198 := Aside0.mk (blk_drew BK198.out); replace BK202 := Aside0.mk (blk_drew BK202.out); replace HB := Aside0.mk (below_drew1 HB.out)
        refine start_ (n := 13) (S := fun w' => w'.cell? ⟨gb202, 0, none⟩ = some (.string ((rd_T77 l0_1 x24_2).f0)) ∧ w'.cell? ⟨gb202, 1, none⟩ = some (.slice A201_1 ((rd_T77 l0_1 x24_2).f1).length c201_1)) (ds := []) (bs 13 0) (by kernel_rfl) rfl rfl ⟨(blk_cell BK202.out 0).trans rfl, (blk_cell BK202.out 1).trans rfl⟩ (fun hHeld => ?_); refine with_tabW line_Formed.tab6 line_Formed.bits6 (fun HT_ HW_ => ?_); generalize w42.drew = w43 at BK198 BK202 HB hHeld ⊢; refine zt 0 29 (bs 13 1) ?_; refine one_ (i := 1) (N := some 30) (bs 13 3) rfl rfl (one_of HT_.out (by kernel_rfl)) (by decide) (fun K hK => ?_); refine goes_ Tryz.func71 (by kernel_rfl) rfl #[.agg #[.string ((rd_T77 l0_1 x24_2).f0), .slice A201_1 ((rd_T77 l0_1 x24_2).f1).length c201_1]] (by rfl) rfl rfl zA ?_
        with_reducible refine (line_Param_formed.calls k2 ((rd_T77 l0_1 x24_2).f0) _ _ ((rd_T77 l0_1 x24_2).f1) false _ zG ?side1 ?side2 A17.out).mono ?_
        (case side1 => exact Kd.C_below (Kd.C_below HR201_1.out HB.out) zX)
        (case side2 => exact HC201_1.out)
        rintro e w44 ⟨rfl, hb⟩; refine ⟨_, rfl, ?_⟩; replace BK198 := zb BK198 hb; replace BK202 := zb BK202 hb; replace HB := zw hb; (try clear hb); (try clear hb2); (try clear hk); (try clear hi); refine hK.out _ _ ⟨(blk_cell BK202.out 0).trans rfl, (blk_cell BK202.out 1).trans rfl⟩ (fun hHeld => ?_); clear hK K; refine zr ?_; refine zp 2 31 (bs 13 7) ?_; refine zp 3 32 (bs 13 15) ?_; refine zu 4 33 (bs 13 31) ?_; refine zu 5 34 (bs 13 63) ?_; refine zu 6 35 (bs 13 127) ?_; refine zu 7 36 (bs 13 255) ?_; refine zu 8 37 (bs 13 511) ?_; refine zu 9 38 (bs 13 1023) ?_; refine zu 10 39 (bs 13 2047) ?_; refine zu 11 40 (bs 13 4095) ?_; refine zp 12 41 (bs 13 8191) ?_
        refine done_ (done_of HT_.out (by kernel_rfl)) ?_
        try go_wp2
        go_ret; exact ⟨zE, zB⟩
      ·obtain rfl := Option.some.inj H; go_wp2; go_ret; exact ⟨zE, zB⟩
end Go.Proofs.YtdojmdbaiddkgaaGreatDoor.Print
end
section
set_option linter.unusedVariables false
set_option linter.unusedSimpArgs false
namespace Go.Proofs.YtdojmdbaiddkgaaGreatDoor.Print
open Go.RowKit Go.Proofs.YtdojmdbaiddkgaaGreatDoorW.PrintWords Go.Proofs.YtdojmdbaiddkgaaGreatDoorW.PrintLast
/-- What a byte of a parameter's value is written as. -/
def parB (c : UInt8) : List UInt8 := if c = 94 then [94, 94] else if c = 10 then [94, 110] else if c = 34 then [94, 39] else [c]
def parT (l : List UInt8) : List UInt8 := l.flatMap parB
theorem parB_le (c : UInt8) : (parB c).length ≤ 2 := by unfold parB; split <;> (try split) <;> (try split) <;> simp
theorem parT_le (l : List UInt8) : (parT l).length ≤ 2 * l.length := by
  induction l with
  | nil => simp [parT]
  | cons c t ih => have := parB_le c; simp only [parT, List.flatMap_cons, List.length_append, List.length_cons] at *; omega
theorem parT_cons (c : UInt8) (t : List UInt8) : parT (c :: t) = parB c ++ parT t := by simp [parT]
/-- Bytes for which a value is quoted. -/
def quoB (c : UInt8) : Bool := c == 58 || c == 59 || c == 44
def parL (l : List UInt8) : List UInt8 := if l.any quoB = true then [34] ++ parT l ++ [34] else parT l
def parW (s : ByteArray) : ByteArray := ⟨(parL s.data.toList).toArray⟩
def escape_Param.f (k : Nat) (a0 : ByteArray) : Option (ByteArray × Int) := (escape_Clean.f k a0 true).bind fun e => if e = 0 then (if a0.size ≤ 2000000000 then some (parW a0, 0) else none) else some (⟨#[]⟩, e)
end Go.Proofs.YtdojmdbaiddkgaaGreatDoor.Print
end
section
set_option linter.unusedVariables false
set_option linter.unusedSimpArgs false
namespace Go.Proofs.YtdojmdbaiddkgaaGreatDoor.Print
open Go.RowKit Go.Proofs.YtdojmdbaiddkgaaGreatDoorW.PrintWords Go.Proofs.YtdojmdbaiddkgaaGreatDoorW.PrintLast
def subB (c : Nat) : Nat := if c = 94 then 94 else if c = 10 then 110 else 39
/-- The table of replacements, as build makes it. -/
structure RT (p : Nat) (w : World) : Prop where
  nils : ∀ c : Nat, c < 256 → c ≠ 94 → c ≠ 10 → c ≠ 34 → w.cell? ⟨p, c, none⟩ = some (.slice none 0 0)
  subs : ∀ c : Nat, c = 94 ∨ c = 10 ∨ c = 34 → ∃ q cap, w.cell? ⟨p, c, none⟩ = some (.slice (some ⟨q, 0, none⟩) 2 cap) ∧ 2 ≤ cap ∧ w.cell? ⟨q, 0, none⟩ = some (.int .u8 94) ∧ w.cell? ⟨q, 1, none⟩ = some (.int .u8 (subB c))
  list : ∃ t cap, w.cell? ⟨p, 256, none⟩ = some (.slice (some ⟨t, 0, none⟩) 3 cap) ∧ 3 ≤ cap ∧ w.cell? ⟨t, 0, none⟩ = some (.string ⟨#[34]⟩) ∧ w.cell? ⟨t, 1, none⟩ = some (.string ⟨#[10]⟩) ∧ w.cell? ⟨t, 2, none⟩ = some (.string ⟨#[94]⟩)
theorem cellLt {w : World} {a : Addr} {v : Value} (h : w.cell? a = some v) : a.block < w.heap.size := by
  rcases Nat.lt_or_ge a.block w.heap.size with h9 | h9
  · exact h9
  · simp [World.cell?, Array.getElem?_eq_none h9] at h
theorem RT.under {p : Nat} {w w' : World} (h : RT p w) (hb : Below w.heap.size w w') : RT p w' := by
  refine ⟨fun c h0 h1 h2 h3 => ?_, fun c hc => ?_, ?_⟩
  · have := h.nils c h0 h1 h2 h3; exact (hb.cell (cellLt this)).trans this
  · obtain ⟨q, cap, a1, a2, a3, a4⟩ := h.subs c hc
    exact ⟨q, cap, (hb.cell (cellLt a1)).trans a1, a2, (hb.cell (cellLt a3)).trans a3, (hb.cell (cellLt a4)).trans a4⟩
  · obtain ⟨t, cap, a1, a2, a3, a4, a5⟩ := h.list
    exact ⟨t, cap, (hb.cell (cellLt a1)).trans a1, a2, (hb.cell (cellLt a3)).trans a3, (hb.cell (cellLt a4)).trans a4, (hb.cell (cellLt a5)).trans a5⟩
def isS (c : UInt8) : Bool := c == 94 || c == 10 || c == 34
theorem parB_len (c : UInt8) : (parB c).length = if isS c = true then 2 else 1 := by
  unfold parB isS
  by_cases h1 : c = 94
  · subst h1; rfl
  by_cases h2 : c = 10
  · subst h2; rfl
  by_cases h3 : c = 34
  · subst h3; rfl
  rw [if_neg h1, if_neg h2, if_neg h3, if_neg (by simp [h1, h2, h3])]; rfl
theorem parT_snoc (l : List UInt8) (c : UInt8) : parT (l ++ [c]) = parT l ++ parB c := by simp [parT]
theorem parB_no (c : UInt8) (h : isS c = false) : parB c = [c] := by
  unfold isS at h
  simp only [Bool.or_eq_false_iff, beq_eq_false_iff_ne] at h
  unfold parB
  rw [if_neg h.1.1, if_neg h.1.2, if_neg h.2]
theorem parT_no : ∀ (l : List UInt8), l.any isS = false → parT l = l
  | [], _ => rfl
  | c :: t, h => by
    rw [List.any_cons, Bool.or_eq_false_iff] at h
    rw [parT_cons, parB_no c h.1, parT_no t h.2]; rfl
theorem ba_of (s : ByteArray) : (⟨s.data.toList.toArray⟩ : ByteArray) = s := by cases s; simp
theorem i8ex : (Tryz.prog.info? 5).map (fun i => (i.zero, i.size, i.bytes)) = some (some (.int .u8 0), 1, 1) := by kernel_rfl
structure I8 (i : TypeInfo) : Prop where
  hi : Tryz.prog.info? 5 = some i
  hz : i.zero = some (.int .u8 0)
  hs : i.size = 1
  hb : i.bytes = 1
theorem i8 : ∃ i, I8 i := by
  obtain ⟨i, hi, h⟩ := Option.map_eq_some_iff.1 i8ex
  simp only [Prod.mk.injEq] at h
  exact ⟨i, hi, h.1, h.2.1, h.2.2⟩
theorem cell_blk {w : World} {g : Nat} {cs : Array Value} {t : TypeId} {fr : Nat × Nat} (h : w.heap[g]? = some (.cells cs t fr)) (j : Nat) : w.cell? ⟨g, j, none⟩ = cs[j]? := by simp [World.cell?, h]
theorem froz_blk {w : World} {g : Nat} {cs : Array Value} {t : TypeId} (h : w.heap[g]? = some (.cells cs t (0, 0))) (j : Nat) : w.frozen? ⟨g, j, none⟩ = false := by simp [World.frozen?, h]
theorem row_put (cur : Array Value) (L M : List UInt8) (n : Nat) (hsz : cur.size = n) (hL : ∀ x, x < L.length → cur[x]? = some (.int .u8 (((L.getD x 0).toNat : Nat) : Int))) (hfit : L.length + M.length ≤ n) :
    (cur.toList.take L.length ++ M.map (fun b => Value.int .u8 ((b.toNat : Nat) : Int)) ++ cur.toList.drop (L.length + M.length)).toArray.size = n ∧
    ∀ x, x < (L ++ M).length → (cur.toList.take L.length ++ M.map (fun b => Value.int .u8 ((b.toNat : Nat) : Int)) ++ cur.toList.drop (L.length + M.length)).toArray[x]? = some (.int .u8 ((((L ++ M).getD x 0).toNat : Nat) : Int)) := by
  have hl : cur.toList.length = n := by rw [Array.length_toList]; exact hsz
  refine ⟨by rw [List.size_toArray]; simp only [List.length_append, List.length_take, List.length_map, List.length_drop]; omega, fun x hx => ?_⟩
  rw [List.length_append] at hx
  rw [List.getElem?_toArray, List.append_assoc]
  by_cases h : x < L.length
  · rw [List.getElem?_append_left (by rw [List.length_take]; omega), List.getElem?_take_of_lt h, Array.getElem?_toList, hL x h, List.getD_eq_getElem?_getD, List.getD_eq_getElem?_getD, List.getElem?_append_left h]
  · have h2 : (cur.toList.take L.length).length = L.length := by rw [List.length_take]; omega
    have hm : x - L.length < M.length := by omega
    rw [List.getElem?_append_right (by omega), h2, List.getElem?_append_left (by rw [List.length_map]; exact hm), List.getElem?_map, List.getD_eq_getElem?_getD, List.getElem?_append_right (by omega), List.getElem?_eq_getElem hm]
    rfl
theorem row_set (cur : Array Value) (L : List UInt8) (c : UInt8) (n : Nat) (hsz : cur.size = n) (hL : ∀ x, x < L.length → cur[x]? = some (.int .u8 (((L.getD x 0).toNat : Nat) : Int))) (hfit : L.length + 1 ≤ n) :
    (cur.setIfInBounds L.length (.int .u8 ((c.toNat : Nat) : Int))).size = n ∧ ∀ x, x < (L ++ [c]).length → (cur.setIfInBounds L.length (.int .u8 ((c.toNat : Nat) : Int)))[x]? = some (.int .u8 ((((L ++ [c]).getD x 0).toNat : Nat) : Int)) := by
  refine ⟨by rw [Array.size_setIfInBounds]; exact hsz, fun x hx => ?_⟩
  rw [List.length_append, List.length_cons, List.length_nil] at hx
  by_cases h : x < L.length
  · rw [Array.getElem?_setIfInBounds_ne (by omega), hL x h, List.getD_eq_getElem?_getD, List.getD_eq_getElem?_getD, List.getElem?_append_left h]
  · obtain rfl : x = L.length := by omega
    rw [Array.getElem?_setIfInBounds_self_of_lt (by omega), List.getD_eq_getElem?_getD, List.getElem?_append_right (Nat.le_refl _), Nat.sub_self]
    rfl
theorem blkSet {w : World} {g : Nat} {t : TypeId} {cs : Array Value} (h : w.heap[g]? = some (.cells cs t (0, 0))) (i : Nat) (u : Value) : (w.setCell ⟨g, i, none⟩ u).heap[g]? = some (.cells (cs.setIfInBounds i u) t (0, 0)) := by
  simp [World.setCell, Array.getElem?_modify, h]
theorem neq_nil (w : World) : (binOp .neq 82 (.slice none 0 0) (.slice none 0 0)).run Tryz.prog w = .ok (.bool false) w := by kernel_rfl
theorem neq_some (q : Addr) (n c : Nat) (w : World) : (binOp .neq 82 (.slice (some q) n c) (.slice none 0 0)).run Tryz.prog w = .ok (.bool true) w := by kernel_rfl
set_option maxHeartbeats 4000000 in
set_option maxRecDepth 100000 in
theorem bsr_short (p : Nat) (s : ByteArray) (w : World) (hT : RT p w) (hs : s.size < 24) :
    Calls Tryz.prog 167 #[.pointer (some ⟨p, 0, none⟩), .string s] w fun e w' => e = .returned (.string ⟨(parT s.data.toList).toArray⟩) ∧ Below w.heap.size w w' := by
  have HT := Aside0.mk hT
  obtain ⟨t, cap, a1, a2, a3, a4, a5⟩ := hT.list
  clear hT
  have hd : decide (24 ≤ s.size) = false := decide_eq_false (by omega)
  go_enter Tryz.func167, Tryz.ntmps167
  go_wp2
  go_loopg [5, 6, 10] s.size (fun g v5 v6 v10 wr => ∃ i : Nat, v10 = .int .i64 i ∧ i ≤ s.size ∧ Aside0 (s.size ≤ i + g) ∧ v5 = .int .i64 (((parT (s.data.toList.take i)).length + (s.size - i) : Nat) : Int) ∧ v6 = .bool ((s.data.toList.take i).any isS) ∧ wr = w)
  case atStart => exact ⟨0, rfl, by omega, ⟨by omega⟩, by simp [parT], by simp, rfl⟩
  case round =>
    obtain ⟨i, rfl, hi, HI, rfl, rfl, rfl⟩ := hrel
    by_cases hlt : i < s.size
    · have hd2 : decide (i < s.size) = true := decide_eq_true hlt
      obtain ⟨c, hc⟩ : ∃ c : UInt8, s[i] = c := ⟨_, rfl⟩
      have hc2 : c.toNat < 256 := c.toNat_lt
      have HTk : Aside0 (s.data.toList.take (i + 1) = s.data.toList.take i ++ [c]) := ⟨by
        rw [List.take_succ_eq_append_getElem (by simpa using hlt)]; rw [← hc]; rfl⟩
      have HPL := Aside0.mk (parB_len c)
      cases gk with
      | zero => exfalso; have := HI.out; omega
      | succ g =>
      by_cases hsp : isS c = true
      · have hsc : c.toNat = 94 ∨ c.toNat = 10 ∨ c.toNat = 34 := by
          unfold isS at hsp
          rw [Bool.or_eq_true, Bool.or_eq_true, beq_iff_eq, beq_iff_eq, beq_iff_eq] at hsp
          rcases hsp with (h | h) | h
          · rw [h]; exact .inl rfl
          · rw [h]; exact .inr (.inl rfl)
          · rw [h]; exact .inr (.inr rfl)
        obtain ⟨q, qc, b1, b2, b3, b4⟩ := HT.out.subs c.toNat hsc
        have nq := neq_some
        go_wp2
        go_roundg g
        case measure => have := HI.out; omega
        case rel =>
          have h1 := parT_le (s.data.toList.take i)
          have h2 : (s.data.toList.take i).length = i := by rw [List.length_take, Array.length_toList]; have e : s.data.size = s.size := rfl; omega
          rw [h2] at h1
          refine ⟨i + 1, by first | rfl | (go_num; done) | (congr 1; omega), by omega, ⟨by have := HI.out; omega⟩, ?_, ?_, rfl⟩
          · rw [HTk.out, parT_snoc, List.length_append, HPL.out, if_pos hsp]; congr 1; unfold wrap64; omega
          · rw [HTk.out, List.any_append, List.any_cons, hsp]; simp
      · have hcell : wr.cell? ⟨p, c.toNat, none⟩ = some (.slice none 0 0) := by
          rw [Bool.not_eq_true] at hsp
          unfold isS at hsp
          simp only [Bool.or_eq_false_iff, beq_eq_false_iff_ne] at hsp
          have ne : ∀ n : Nat, n < 256 → c ≠ n.toUInt8 → c.toNat ≠ n := fun n hn h e => h (by apply UInt8.toNat_inj.1; rw [e]; simp; omega)
          exact HT.out.nils c.toNat hc2 (ne 94 (by omega) hsp.1.1) (ne 10 (by omega) hsp.1.2) (ne 34 (by omega) hsp.2)
        have nq := neq_nil
        go_wp2
        go_roundg g
        case measure => have := HI.out; omega
        case rel =>
          rw [Bool.not_eq_true] at hsp
          refine ⟨i + 1, by first | rfl | (go_num; done) | (congr 1; omega), by omega, ⟨by have := HI.out; omega⟩, ?_, ?_, rfl⟩
          · rw [HTk.out, parT_snoc, List.length_append, HPL.out, if_neg (by rw [hsp]; simp)]; congr 1; omega
          · rw [HTk.out, List.any_append, List.any_cons, hsp]; simp
    · have hd2 : decide (i < s.size) = false := decide_eq_false hlt
      have hil : i = s.size := by omega
      subst hil
      have htk : s.data.toList.take s.size = s.data.toList := List.take_of_length_le (by simp)
      rw [htk, Nat.sub_self, Nat.add_zero]
      by_cases hany : s.data.toList.any isS = true
      · rw [hany]
        have hpl := parT_le s.data.toList
        have e : s.data.toList.length = s.size := by simp
        rw [e] at hpl
        have HPA : Aside0 (∃ n, (parT s.data.toList).length = n ∧ n ≤ 100) := ⟨⟨_, rfl, by omega⟩⟩
        obtain ⟨n, hn, hn2⟩ := HPA.out
        rw [hn]
        clear hpl
        obtain ⟨ti, I⟩ := i8
        have hmk := run_make (P := Tryz.prog) wr 82 5 ti (.int .u8 0) Tryz.underlying82 I.hi I.hz .i64 .i64 (n : Int) (n : Int) (by omega) (by omega) (by rw [I.hb]; omega) (by omega)
        rw [Int.toNat_natCast, I.hs, Nat.mul_one] at hmk
        go_wp2
        have HN := Aside0.mk hn
        clear hn hmk htk hany HI HPA
        have hal := (Below.refl wr.heap.size wr).alloc (Nat.le_refl _) (.cells (madeCells #[.int .u8 0] n) 5)
        have hblk : (wr.alloc (.cells (madeCells #[.int .u8 0] n) 5)).heap[wr.heap.size]? = some (.cells (madeCells #[.int .u8 0] n) 5 (0, 0)) := by simp only [World.alloc, Array.getElem?_push_size]
        have HBL := Aside0.mk hblk
        have HAL := Aside0.mk hal
        clear hblk hal
        obtain ⟨G, hGd⟩ : ∃ G, G = wr.heap.size := ⟨_, rfl⟩
        rw [← hGd] at HBL ⊢
        have HGE := Aside0.mk hGd
        clear hGd
        go_loopg [13, 14] s.size (fun g v13 v14 wr2 => ∃ (k : Nat) (cur : Array Value), v14 = .int .i64 k ∧ v13 = .int .i64 ((parT (s.data.toList.take k)).length : Nat) ∧ k ≤ s.size ∧ Aside0 (s.size ≤ k + g) ∧ Aside0 (wr2.heap[G]? = some (.cells cur 5 (0, 0)) ∧ cur.size = n ∧ ∀ x, x < (parT (s.data.toList.take k)).length → cur[x]? = some (.int .u8 ((((parT (s.data.toList.take k)).getD x 0).toNat : Nat) : Int))) ∧ Aside0 (Below wr.heap.size wr wr2))
        case atStart => exact ⟨0, _, rfl, by simp [parT], by omega, ⟨by omega⟩, ⟨HBL.out, by simp [madeCells], fun x hx => by simp [parT] at hx⟩, HAL⟩
        case round =>
          obtain ⟨k, cur, rfl, rfl, hk, HK, HC, HB⟩ := hrel
          by_cases hlt2 : k < s.size
          · have hd3 : decide (k < s.size) = true := decide_eq_true hlt2
            obtain ⟨c, hc⟩ : ∃ c : UInt8, s[k] = c := ⟨_, rfl⟩
            have hc2 : c.toNat < 256 := c.toNat_lt
            have HTk : Aside0 (s.data.toList.take (k + 1) = s.data.toList.take k ++ [c]) := ⟨by
              rw [List.take_succ_eq_append_getElem (by simpa using hlt2)]; rw [← hc]; rfl⟩
            have HTn := HT.out.under HB.out
            have HLn : Aside0 ((parT (s.data.toList.take (k + 1))).length ≤ n) := ⟨by
              have h1 : parT s.data.toList = parT (s.data.toList.take (k + 1)) ++ parT (s.data.toList.drop (k + 1)) := by
                unfold parT; rw [← List.flatMap_append, List.take_append_drop]
              rw [← HN.out, h1, List.length_append]; omega⟩
            have hLn := HLn.out
            rw [HTk.out, parT_snoc, List.length_append, parB_len] at hLn
            cases gk with
            | zero => exfalso; have := HK.out; omega
            | succ g =>
            obtain ⟨J, hJ⟩ : ∃ J, (parT (s.data.toList.take k)).length = J := ⟨_, rfl⟩
            rw [hJ] at hLn HC ⊢
            have HJ := Aside0.mk hJ
            clear hJ
            by_cases hsp : isS c = true
            · have hsc : c.toNat = 94 ∨ c.toNat = 10 ∨ c.toNat = 34 := by
                unfold isS at hsp
                rw [Bool.or_eq_true, Bool.or_eq_true, beq_iff_eq, beq_iff_eq, beq_iff_eq] at hsp
                rcases hsp with (h | h) | h
                · rw [h]; exact .inl rfl
                · rw [h]; exact .inr (.inl rfl)
                · rw [h]; exact .inr (.inr rfl)
              obtain ⟨q, qc, b1, b2, b3, b4⟩ := HTn.subs c.toNat hsc
              have nq := neq_some
              rw [if_pos hsp] at hLn
              have hJn : decide (J ≤ n) = true := decide_eq_true (by omega)
              obtain ⟨ti2, I2⟩ := i8
              have hcp := run_copy_row (P := Tryz.prog) wr.drew 82 82 3 5 G J (n - J) (n - J) ⟨q, 0, none⟩ 2 qc cur 5 [.int .u8 94, .int .u8 (subB c.toNat)] Tryz.underlying82 (by rw [I2.hi]; simp [I2.hs]) HC.out.1 (by simp only [List.length_cons, List.length_nil]; show 2 = min 2 (n - J); omega)
                (fun j v hj => by
                  have hjl : j < 2 := (List.getElem?_eq_some_iff.1 hj).1
                  have hj2 : j = 0 ∨ j = 1 := by omega
                  rcases hj2 with rfl | rfl
                  · have : v = .int .u8 94 := by simpa using hj.symm
                    rw [this, World.cell?_drew]; exact b3
                  · have : v = .int .u8 (subB c.toNat) := by simpa using hj.symm
                    rw [this, World.cell?_drew]; exact b4)
                (by have := HC.out.2.1; simp only [List.length_cons, List.length_nil]; omega) (by intro v hv; simp only [List.mem_cons, List.not_mem_nil, or_false] at hv; rcases hv with rfl | rfl <;> rfl)
              simp only [List.length_cons, List.length_nil] at hcp
              have HC3 := HC.out
              have hpb : ([.int .u8 94, .int .u8 (subB c.toNat)] : List Value) = (parB c).map (fun b => Value.int .u8 ((b.toNat : Nat) : Int)) := by
                rcases hsc with h | h | h
                · have hc9 : c = 94 := by apply UInt8.toNat_inj.1; rw [h]; rfl
                  subst hc9; rfl
                · have hc9 : c = 10 := by apply UInt8.toNat_inj.1; rw [h]; rfl
                  subst hc9; rfl
                · have hc9 : c = 34 := by apply UInt8.toNat_inj.1; rw [h]; rfl
                  subst hc9; rfl
              have HPB := Aside0.mk hpb
              clear hpb hsc
              go_wp2
              go_region
              go_wp2
              go_roundg g
              case measure => have := HK.out; omega
              case rel =>
                have hlen2 : (parB c).length = 2 := by rw [parB_len, if_pos hsp]
                have hJ2 := HJ.out
                have hrp := row_put cur (parT (s.data.toList.take k)) (parB c) n HC3.2.1 (fun x hx => HC3.2.2 x (by rw [← hJ2]; exact hx)) (by rw [hJ2, hlen2]; omega)
                rw [hJ2, hlen2, ← HPB.out] at hrp
                simp only [List.append_assoc, List.cons_append, List.nil_append] at hrp
                refine ⟨k + 1, _, by first | rfl | (go_num; done) | (congr 1; omega), by rw [HTk.out, parT_snoc, List.length_append, hJ2, hlen2]; rfl, by omega, ⟨by have := HK.out; omega⟩, ⟨setRow_heap _ _ _ _ _ _ HC3.1, hrp.1, fun x hx => ?_⟩, ⟨below_setRow (below_drew HB.out) (by have := HGE.out; omega) _⟩⟩
                rw [HTk.out, parT_snoc] at hx ⊢
                exact hrp.2 x hx
            · have hcell : wr.cell? ⟨p, c.toNat, none⟩ = some (.slice none 0 0) := by
                rw [Bool.not_eq_true] at hsp
                unfold isS at hsp
                simp only [Bool.or_eq_false_iff, beq_eq_false_iff_ne] at hsp
                have ne : ∀ n : Nat, n < 256 → c ≠ n.toUInt8 → c.toNat ≠ n := fun n hn h e => h (by apply UInt8.toNat_inj.1; rw [e]; simp; omega)
                exact HTn.nils c.toNat hc2 (ne 94 (by omega) hsp.1.1) (ne 10 (by omega) hsp.1.2) (ne 34 (by omega) hsp.2)
              have nq := neq_nil
              rw [if_neg hsp] at hLn
              have hJn : decide (J < n) = true := decide_eq_true (by omega)
              have hold : wr.cell? ⟨G, J, none⟩ = some (cur[J]'(by have := HC.out.2.1; omega)) := by
                rw [cell_blk HC.out.1, Array.getElem?_eq_getElem]
              have hfz := froz_blk HC.out.1 J
              go_wp2
              go_roundg g
              case measure => have := HK.out; omega
              case rel =>
                have hlen1 : parB c = [c] := parB_no c (by rw [Bool.not_eq_true] at hsp; exact hsp)
                have hJ2 := HJ.out
                have hrs := row_set cur (parT (s.data.toList.take k)) c n HC.out.2.1 (fun x hx => HC.out.2.2 x (by rw [← hJ2]; exact hx)) (by rw [hJ2]; omega)
                rw [hJ2] at hrs
                refine ⟨k + 1, _, by first | rfl | (go_num; done) | (congr 1; omega), by rw [HTk.out, parT_snoc, hlen1, List.length_append, hJ2]; rfl, by omega, ⟨by have := HK.out; omega⟩, ⟨blkSet HC.out.1 _ _, hrs.1, fun x hx => ?_⟩, ⟨Below.setCell HB.out (by have := HGE.out; show _ ≤ G; omega) _⟩⟩
                rw [HTk.out, parT_snoc, hlen1] at hx ⊢
                exact hrs.2 x hx
          · have hd3 : decide (k < s.size) = false := decide_eq_false hlt2
            have hks : k = s.size := by omega
            subst hks
            have htk2 : s.data.toList.take s.size = s.data.toList := List.take_of_length_le (by simp)
            rw [htk2] at HC ⊢
            have hcv := run_convert_bytes_back (P := Tryz.prog) wr 82 9 5 ⟨G, 0, none⟩ n (parT s.data.toList) Tryz.underlying82 Tryz.underlying5 Tryz.underlying9 (fun j hj => by
              have ha : (⟨G, 0, none⟩ : Addr).add j = ⟨G, j, none⟩ := by
                unfold Addr.add
                split
                · rename_i h8; subst h8; rfl
                · simp
              rw [ha, cell_blk HC.out.1, HC.out.2.2 j hj, List.getD_eq_getElem?_getD, List.getElem?_eq_getElem hj]; rfl)
            rw [HN.out] at hcv
            go_wp2
            go_ret
            exact ⟨rfl, HB.out⟩
      · rw [Bool.not_eq_true] at hany
        rw [hany]
        have hno := parT_no _ hany
        go_wp2
        go_ret
        exact ⟨by rw [hno, ba_of]; rfl, Below.refl _ _⟩
end Go.Proofs.YtdojmdbaiddkgaaGreatDoor.Print
end
section
set_option linter.unusedVariables false
set_option linter.unusedSimpArgs false
namespace Go.Proofs.YtdojmdbaiddkgaaGreatDoor.Print
open Go.RowKit Go.Proofs.YtdojmdbaiddkgaaGreatDoorW.PrintWords Go.Proofs.YtdojmdbaiddkgaaGreatDoorW.PrintLast
def seqC : Nat → UInt8
  | 0 => 34
  | 1 => 10
  | _ => 94
def cntS : Nat → List UInt8 → Nat
  | 0, _ => 0
  | i + 1, l => cntS i l + Lib.countByte l (seqC i)
theorem cntS_le : ∀ (i : Nat) (l : List UInt8), cntS i l ≤ i * l.length
  | 0, l => by simp [cntS]
  | i + 1, l => by
    have h1 := cntS_le i l
    have h2 : Lib.countByte l (seqC i) ≤ l.length := List.count_le_length
    rw [cntS, Nat.add_mul, Nat.one_mul]; omega
theorem cnt_cons (c : UInt8) (t : List UInt8) (x : UInt8) : Lib.countByte (c :: t) x = Lib.countByte t x + if c = x then 1 else 0 := by
  unfold Lib.countByte
  rw [List.count_cons]
  by_cases h : c = x
  · simp [h]
  · simp [h]
theorem cnt3 (l : List UInt8) : cntS 3 l = Lib.countByte l 34 + Lib.countByte l 10 + Lib.countByte l 94 := by
  simp only [cntS, seqC]; omega
theorem cnt3_cons (c : UInt8) (t : List UInt8) : cntS 3 (c :: t) = cntS 3 t + if isS c = true then 1 else 0 := by
  rw [cnt3, cnt3, cnt_cons, cnt_cons, cnt_cons]
  unfold isS
  by_cases h1 : c = 94
  · subst h1; simp; omega
  by_cases h2 : c = 10
  · subst h2; simp; omega
  by_cases h3 : c = 34
  · subst h3; simp; omega
  simp [h1, h2, h3]
theorem par_cnt : ∀ (l : List UInt8), (parT l).length = l.length + cntS 3 l
  | [] => by rw [cnt3]; rfl
  | c :: t => by
    rw [parT_cons, List.length_append, par_cnt t, parB_len, cnt3_cons, List.length_cons]
    split <;> omega
theorem any_cnt : ∀ (l : List UInt8), l.any isS = decide (0 < cntS 3 l)
  | [] => by rw [cnt3]; rfl
  | c :: t => by
    rw [List.any_cons, any_cnt t, cnt3_cons]
    cases h : isS c
    · simp
    · simp
set_option maxHeartbeats 4000000 in
set_option maxRecDepth 100000 in
theorem bsr_long (p : Nat) (s : ByteArray) (w : World) (hT : RT p w) (hs24 : ¬ s.size < 24) (hs : s.size ≤ 2000000000) :
    Calls Tryz.prog 167 #[.pointer (some ⟨p, 0, none⟩), .string s] w fun e w' => e = .returned (.string ⟨(parT s.data.toList).toArray⟩) ∧ Below w.heap.size w w' := by
  have HT := Aside0.mk hT
  obtain ⟨t, cap, a1, a2, a3, a4, a5⟩ := hT.list
  clear hT
  have hd : decide (24 ≤ s.size) = true := decide_eq_true (by omega)
  have hdI : decide ((24 : Int) ≤ (s.size : Int)) = true := decide_eq_true (by omega)
  go_enter Tryz.func167, Tryz.ntmps167
  go_wp2
  go_loopg [5, 6, 32] 3 (fun g v5 v6 v32 wr => ∃ (i : Nat) (N : Int) (B : Bool), v32 = .int .i64 i ∧ i ≤ 3 ∧ Aside0 (3 ≤ i + g) ∧ v5 = .int .i64 N ∧ v6 = .bool B ∧ Aside0 (N = ((s.size + cntS i s.data.toList : Nat) : Int)) ∧ Aside0 (B = decide (0 < cntS i s.data.toList)) ∧ Aside0 (Below w.heap.size w wr))
  case atStart => exact ⟨0, _, _, rfl, by omega, ⟨by omega⟩, rfl, rfl, ⟨by simp [cntS]⟩, ⟨by simp [cntS]⟩, ⟨Below.refl _ _⟩⟩
  case round =>
    obtain ⟨i, N, B, rfl, hi, HI, rfl, rfl, HNN, HBB, HW⟩ := hrel
    have a1 := (HW.out.cell (cellLt a1)).trans a1
    have a3 := (HW.out.cell (cellLt a3)).trans a3
    have a4 := (HW.out.cell (cellLt a4)).trans a4
    have a5 := (HW.out.cell (cellLt a5)).trans a5
    have HT := Aside0.mk (HT.out.under HW.out)
    by_cases hlt : i < 3
    · cases gk with
      | zero => exfalso; have := HI.out; omega
      | succ g =>
      have nq := neq_some
      have e0 : s.data.toList.length = s.size := by simp
      have hd2 : decide (i < 3) = true := decide_eq_true hlt
      have hcell : wr.cell? ⟨t, i, none⟩ = some (.string ⟨#[seqC i]⟩) := by
        have hi3 : i = 0 ∨ i = 1 ∨ i = 2 := by omega
        rcases hi3 with rfl | rfl | rfl
        · exact a3
        · exact a4
        · exact a5
      have hsc : (seqC i).toNat = 94 ∨ (seqC i).toNat = 10 ∨ (seqC i).toNat = 34 := by
        have hi3 : i = 0 ∨ i = 1 ∨ i = 2 := by omega
        rcases hi3 with rfl | rfl | rfl
        · exact .inr (.inr rfl)
        · exact .inr (.inl rfl)
        · exact .inl rfl
      obtain ⟨q, qc, b1, b2, b3, b4⟩ := HT.out.subs (seqC i).toNat hsc
      have HS : Aside0 (cntS (i + 1) s.data.toList = cntS i s.data.toList + Lib.countByte s.data.toList (seqC i)) := ⟨rfl⟩
      have hle1 := cntS_le (i + 1) s.data.toList
      have hle0 := cntS_le i s.data.toList
      rw [HS.out] at hle1
      have h3 : i ≤ 2 := by omega
      obtain ⟨C, hCd⟩ : ∃ C, Lib.countByte s.data.toList (seqC i) = C := ⟨_, rfl⟩
      rw [hCd] at HS hle1
      have HCd := Aside0.mk hCd
      clear hCd
      obtain ⟨D, hDd⟩ : ∃ D, cntS i s.data.toList = D := ⟨_, rfl⟩
      rw [hDd] at HS hle1 hle0 HNN HBB
      clear hDd
      have hle3 : D + C ≤ 3 * s.size := Nat.le_trans hle1 (by rw [e0]; exact Nat.mul_le_mul_right _ (by omega))
      have hx0 : (⟨#[seqC i]⟩ : ByteArray)[0]'(by show 0 < 1; omega) = seqC i := rfl
      have h256 : (seqC i).toNat < 256 := (seqC i).toNat_lt
      have hd256 : decide ((seqC i).toNat < 256) = true := decide_eq_true h256
      clear a3 a4 a5 hsc
      by_cases hC0 : C = 0
      · subst hC0
        have hb : (((0 : Nat) : Int) != 0) = false := rfl
        go_wp2_with (go_at_call 169; refine (Tryz.strings_Count_one _ _ _).mono ?_; rintro e w' ⟨rfl, hw⟩; rw [hw, HCd.out]; clear hw)
        go_roundg g
        case measure => have := HI.out; omega
        case rel => exact ⟨i + 1, _, _, by first | rfl | (go_num; done) | (congr 1; omega), by omega, ⟨by have := HI.out; omega⟩, rfl, rfl, ⟨by rw [HS.out, HNN.out]; rfl⟩, ⟨by rw [HS.out, HBB.out, Nat.add_zero]⟩, HW⟩
      · have hb : (((C : Nat) : Int) != 0) = true := bne_iff_ne.2 (by omega)
        go_wp2_with (go_at_call 169; refine (Tryz.strings_Count_one _ _ _).mono ?_; rintro e w' ⟨rfl, hw⟩; rw [hw, HCd.out]; clear hw)
        go_region
        go_wp2
        go_roundg g
        case measure => have := HI.out; omega
        case rel => exact ⟨i + 1, _, _, by first | rfl | (go_num; done) | (congr 1; omega), by omega, ⟨by have := HI.out; omega⟩, rfl, rfl, ⟨by rw [HS.out]; have := HNN.out; first | omega | (unfold wrap64; omega) | (simp only [wrap64]; omega)⟩, ⟨by rw [HS.out, decide_eq_true (by omega)]⟩, ⟨below_drew HW.out⟩⟩
    · have hi3 : i = 3 := by omega
      subst hi3
      have hcn := par_cnt s.data.toList
      have hcy := any_cnt s.data.toList
      have e : s.data.toList.length = s.size := by simp
      rw [e] at hcn
      have hN := HNN.out
      have hB := HBB.out
      rw [← hcn] at hN
      rw [← hcy] at hB
      subst hN
      subst hB
      clear HNN HBB
      by_cases hany : s.data.toList.any isS = true
      · rw [hany]
        have hpl := parT_le s.data.toList
        have e : s.data.toList.length = s.size := by simp
        rw [e] at hpl
        have HPA : Aside0 (∃ n, (parT s.data.toList).length = n ∧ n ≤ 4000000000) := ⟨⟨_, rfl, by omega⟩⟩
        obtain ⟨n, hn, hn2⟩ := HPA.out
        rw [hn]
        clear hpl
        obtain ⟨ti, I⟩ := i8
        have hmk := run_make (P := Tryz.prog) wr 82 5 ti (.int .u8 0) Tryz.underlying82 I.hi I.hz .i64 .i64 (n : Int) (n : Int) (by omega) (by omega) (by rw [I.hb]; omega) (by omega)
        rw [Int.toNat_natCast, I.hs, Nat.mul_one] at hmk
        go_wp2
        have HN := Aside0.mk hn
        clear hn hmk hany HI HPA hcn hcy
        have hal := (Below.refl wr.heap.size wr).alloc (Nat.le_refl _) (.cells (madeCells #[.int .u8 0] n) 5)
        have hblk : (wr.alloc (.cells (madeCells #[.int .u8 0] n) 5)).heap[wr.heap.size]? = some (.cells (madeCells #[.int .u8 0] n) 5 (0, 0)) := by simp only [World.alloc, Array.getElem?_push_size]
        have HBL := Aside0.mk hblk
        have HAL := Aside0.mk hal
        clear hblk hal
        obtain ⟨G, hGd⟩ : ∃ G, G = wr.heap.size := ⟨_, rfl⟩
        rw [← hGd] at HBL ⊢
        have HGE := Aside0.mk hGd
        clear hGd
        go_loopg [13, 14] s.size (fun g v13 v14 wr2 => ∃ (k : Nat) (cur : Array Value), v14 = .int .i64 k ∧ v13 = .int .i64 ((parT (s.data.toList.take k)).length : Nat) ∧ k ≤ s.size ∧ Aside0 (s.size ≤ k + g) ∧ Aside0 (wr2.heap[G]? = some (.cells cur 5 (0, 0)) ∧ cur.size = n ∧ ∀ x, x < (parT (s.data.toList.take k)).length → cur[x]? = some (.int .u8 ((((parT (s.data.toList.take k)).getD x 0).toNat : Nat) : Int))) ∧ Aside0 (Below wr.heap.size wr wr2))
        case atStart => exact ⟨0, _, rfl, by simp [parT], by omega, ⟨by omega⟩, ⟨HBL.out, by simp [madeCells], fun x hx => by simp [parT] at hx⟩, HAL⟩
        case round =>
          obtain ⟨k, cur, rfl, rfl, hk, HK, HC, HB⟩ := hrel
          by_cases hlt2 : k < s.size
          · have hd3 : decide (k < s.size) = true := decide_eq_true hlt2
            obtain ⟨c, hc⟩ : ∃ c : UInt8, s[k] = c := ⟨_, rfl⟩
            have hc2 : c.toNat < 256 := c.toNat_lt
            have HTk : Aside0 (s.data.toList.take (k + 1) = s.data.toList.take k ++ [c]) := ⟨by
              rw [List.take_succ_eq_append_getElem (by simpa using hlt2)]; rw [← hc]; rfl⟩
            have HTn := HT.out.under HB.out
            have HLn : Aside0 ((parT (s.data.toList.take (k + 1))).length ≤ n) := ⟨by
              have h1 : parT s.data.toList = parT (s.data.toList.take (k + 1)) ++ parT (s.data.toList.drop (k + 1)) := by
                unfold parT; rw [← List.flatMap_append, List.take_append_drop]
              rw [← HN.out, h1, List.length_append]; omega⟩
            have hLn := HLn.out
            rw [HTk.out, parT_snoc, List.length_append, parB_len] at hLn
            cases gk with
            | zero => exfalso; have := HK.out; omega
            | succ g =>
            obtain ⟨J, hJ⟩ : ∃ J, (parT (s.data.toList.take k)).length = J := ⟨_, rfl⟩
            rw [hJ] at hLn HC ⊢
            have HJ := Aside0.mk hJ
            clear hJ
            by_cases hsp : isS c = true
            · have hsc : c.toNat = 94 ∨ c.toNat = 10 ∨ c.toNat = 34 := by
                unfold isS at hsp
                rw [Bool.or_eq_true, Bool.or_eq_true, beq_iff_eq, beq_iff_eq, beq_iff_eq] at hsp
                rcases hsp with (h | h) | h
                · rw [h]; exact .inl rfl
                · rw [h]; exact .inr (.inl rfl)
                · rw [h]; exact .inr (.inr rfl)
              obtain ⟨q, qc, b1, b2, b3, b4⟩ := HTn.subs c.toNat hsc
              have nq := neq_some
              rw [if_pos hsp] at hLn
              have hJn : decide (J ≤ n) = true := decide_eq_true (by omega)
              obtain ⟨ti2, I2⟩ := i8
              have hcp := run_copy_row (P := Tryz.prog) wr.drew 82 82 3 5 G J (n - J) (n - J) ⟨q, 0, none⟩ 2 qc cur 5 [.int .u8 94, .int .u8 (subB c.toNat)] Tryz.underlying82 (by rw [I2.hi]; simp [I2.hs]) HC.out.1 (by simp only [List.length_cons, List.length_nil]; show 2 = min 2 (n - J); omega)
                (fun j v hj => by
                  have hjl : j < 2 := (List.getElem?_eq_some_iff.1 hj).1
                  have hj2 : j = 0 ∨ j = 1 := by omega
                  rcases hj2 with rfl | rfl
                  · have : v = .int .u8 94 := by simpa using hj.symm
                    rw [this, World.cell?_drew]; exact b3
                  · have : v = .int .u8 (subB c.toNat) := by simpa using hj.symm
                    rw [this, World.cell?_drew]; exact b4)
                (by have := HC.out.2.1; simp only [List.length_cons, List.length_nil]; omega) (by intro v hv; simp only [List.mem_cons, List.not_mem_nil, or_false] at hv; rcases hv with rfl | rfl <;> rfl)
              simp only [List.length_cons, List.length_nil] at hcp
              have HC3 := HC.out
              have hpb : ([.int .u8 94, .int .u8 (subB c.toNat)] : List Value) = (parB c).map (fun b => Value.int .u8 ((b.toNat : Nat) : Int)) := by
                rcases hsc with h | h | h
                · have hc9 : c = 94 := by apply UInt8.toNat_inj.1; rw [h]; rfl
                  subst hc9; rfl
                · have hc9 : c = 10 := by apply UInt8.toNat_inj.1; rw [h]; rfl
                  subst hc9; rfl
                · have hc9 : c = 34 := by apply UInt8.toNat_inj.1; rw [h]; rfl
                  subst hc9; rfl
              have HPB := Aside0.mk hpb
              clear hpb hsc
              go_wp2
              go_region
              go_wp2
              go_roundg g
              case measure => have := HK.out; omega
              case rel =>
                have hlen2 : (parB c).length = 2 := by rw [parB_len, if_pos hsp]
                have hJ2 := HJ.out
                have hrp := row_put cur (parT (s.data.toList.take k)) (parB c) n HC3.2.1 (fun x hx => HC3.2.2 x (by rw [← hJ2]; exact hx)) (by rw [hJ2, hlen2]; omega)
                rw [hJ2, hlen2, ← HPB.out] at hrp
                simp only [List.append_assoc, List.cons_append, List.nil_append] at hrp
                refine ⟨k + 1, _, by first | rfl | (go_num; done) | (congr 1; omega), by rw [HTk.out, parT_snoc, List.length_append, hJ2, hlen2]; rfl, by omega, ⟨by have := HK.out; omega⟩, ⟨setRow_heap _ _ _ _ _ _ HC3.1, hrp.1, fun x hx => ?_⟩, ⟨below_setRow (below_drew HB.out) (by have := HGE.out; omega) _⟩⟩
                rw [HTk.out, parT_snoc] at hx ⊢
                exact hrp.2 x hx
            · have hcell : wr.cell? ⟨p, c.toNat, none⟩ = some (.slice none 0 0) := by
                rw [Bool.not_eq_true] at hsp
                unfold isS at hsp
                simp only [Bool.or_eq_false_iff, beq_eq_false_iff_ne] at hsp
                have ne : ∀ n : Nat, n < 256 → c ≠ n.toUInt8 → c.toNat ≠ n := fun n hn h e => h (by apply UInt8.toNat_inj.1; rw [e]; simp; omega)
                exact HTn.nils c.toNat hc2 (ne 94 (by omega) hsp.1.1) (ne 10 (by omega) hsp.1.2) (ne 34 (by omega) hsp.2)
              have nq := neq_nil
              rw [if_neg hsp] at hLn
              have hJn : decide (J < n) = true := decide_eq_true (by omega)
              have hold : wr.cell? ⟨G, J, none⟩ = some (cur[J]'(by have := HC.out.2.1; omega)) := by
                rw [cell_blk HC.out.1, Array.getElem?_eq_getElem]
              have hfz := froz_blk HC.out.1 J
              go_wp2
              go_roundg g
              case measure => have := HK.out; omega
              case rel =>
                have hlen1 : parB c = [c] := parB_no c (by rw [Bool.not_eq_true] at hsp; exact hsp)
                have hJ2 := HJ.out
                have hrs := row_set cur (parT (s.data.toList.take k)) c n HC.out.2.1 (fun x hx => HC.out.2.2 x (by rw [← hJ2]; exact hx)) (by rw [hJ2]; omega)
                rw [hJ2] at hrs
                refine ⟨k + 1, _, by first | rfl | (go_num; done) | (congr 1; omega), by rw [HTk.out, parT_snoc, hlen1, List.length_append, hJ2]; rfl, by omega, ⟨by have := HK.out; omega⟩, ⟨blkSet HC.out.1 _ _, hrs.1, fun x hx => ?_⟩, ⟨Below.setCell HB.out (by have := HGE.out; show _ ≤ G; omega) _⟩⟩
                rw [HTk.out, parT_snoc, hlen1] at hx ⊢
                exact hrs.2 x hx
          · have hd3 : decide (k < s.size) = false := decide_eq_false hlt2
            have hks : k = s.size := by omega
            subst hks
            have htk2 : s.data.toList.take s.size = s.data.toList := List.take_of_length_le (by simp)
            rw [htk2] at HC ⊢
            have hcv := run_convert_bytes_back (P := Tryz.prog) wr 82 9 5 ⟨G, 0, none⟩ n (parT s.data.toList) Tryz.underlying82 Tryz.underlying5 Tryz.underlying9 (fun j hj => by
              have ha : (⟨G, 0, none⟩ : Addr).add j = ⟨G, j, none⟩ := by
                unfold Addr.add
                split
                · rename_i h8; subst h8; rfl
                · simp
              rw [ha, cell_blk HC.out.1, HC.out.2.2 j hj, List.getD_eq_getElem?_getD, List.getElem?_eq_getElem hj]; rfl)
            rw [HN.out] at hcv
            go_wp2
            go_ret
            exact ⟨rfl, HW.out.trans (HB.out.mono HW.out.size)⟩
      · rw [Bool.not_eq_true] at hany
        rw [hany]
        have hno := parT_no _ hany
        go_wp2
        go_ret
        exact ⟨by rw [hno, ba_of]; rfl, HW.out⟩
theorem bsr_walk (p : Nat) (s : ByteArray) (w : World) (hT : RT p w) (hs : s.size ≤ 2000000000) :
    Calls Tryz.prog 167 #[.pointer (some ⟨p, 0, none⟩), .string s] w fun e w' => e = .returned (.string ⟨(parT s.data.toList).toArray⟩) ∧ Below w.heap.size w w' := by
  by_cases h : s.size < 24
  · exact bsr_short p s w hT h
  · exact bsr_long p s w hT h hs
end Go.Proofs.YtdojmdbaiddkgaaGreatDoor.Print
end
section
set_option linter.unusedVariables false
set_option linter.unusedSimpArgs false
namespace Go.Proofs.YtdojmdbaiddkgaaGreatDoor.Print
open Go.RowKit Go.Proofs.YtdojmdbaiddkgaaGreatDoorW.PrintWords Go.Proofs.YtdojmdbaiddkgaaGreatDoorW.PrintLast
/-- The six strings of a replacer. -/
structure Six (b : Nat) (w : World) : Prop where
  h0 : w.cell? ⟨b, 0, none⟩ = some (.string ⟨#[94]⟩)
  h1 : w.cell? ⟨b, 1, none⟩ = some (.string ⟨#[94, 94]⟩)
  h2 : w.cell? ⟨b, 2, none⟩ = some (.string ⟨#[10]⟩)
  h3 : w.cell? ⟨b, 3, none⟩ = some (.string ⟨#[94, 110]⟩)
  h4 : w.cell? ⟨b, 4, none⟩ = some (.string ⟨#[34]⟩)
  h5 : w.cell? ⟨b, 5, none⟩ = some (.string ⟨#[94, 39]⟩)
/-- A new replacer: not built yet. -/
structure RN (p c cap : Nat) (w : World) : Prop where
  blk : w.heap[p]? = some (.cells #[.int .u32 0, .int .i32 0, .int .u32 0, .nilIface, .slice (some ⟨c, 0, none⟩) 6 cap] 160 (0, 0))
  six : Six c w
theorem allocAt (w : World) (o : Obj) : (w.alloc o).heap[w.heap.size]? = some o := by simp only [World.alloc, Array.getElem?_push_size]
theorem new_walk (b : Nat) (w : World) (h : Six b w) :
    Calls Tryz.prog 80 #[.slice (some ⟨b, 0, none⟩) 6 6] w fun e w' => ∃ p c cap : Nat, e = .returned (.pointer (some ⟨p, 0, none⟩)) ∧ RN p c cap w' ∧ w.heap.size ≤ c ∧ c < p ∧ Below w.heap.size w w' := by
  obtain ⟨h0, h1, h2, h3, h4, h5⟩ := h
  go_enter Tryz.func80, Tryz.ntmps80
  go_wp2
  go_ret
  refine ⟨w.heap.size + 1, w.heap.size, (Question.appendCap 6 0 9).cut (w.tape w.drawn (Question.appendCap 6 0 9)), by first | rfl | simp, ⟨?_, ?_⟩, Nat.le_refl _, Nat.lt_succ_self _, ?_⟩
  · have := allocAt (w.alloc (.cells (#[.string ⟨#[94]⟩, .string ⟨#[94, 94]⟩, .string ⟨#[10]⟩, .string ⟨#[94, 110]⟩, .string ⟨#[34]⟩, .string ⟨#[94, 39]⟩] ++ Builtin.zeroCells #[.string ⟨#[]⟩] ((Question.appendCap 6 0 9).cut (w.tape w.drawn (Question.appendCap 6 0 9)) - 6)) 9)) (.cells #[.int .u32 0, .int .i32 0, .int .u32 0, .nilIface, .slice (some ⟨w.heap.size, 0, none⟩) 6 ((Question.appendCap 6 0 9).cut (w.tape w.drawn (Question.appendCap 6 0 9)))] 160)
    rw [World.size_alloc] at this
    exact this
  · constructor
    all_goals
      rw [World.cell?_drew, World.cell?_alloc_lt _ _ _ (by simp), World.cell?_alloc_at _ _ _ _ rfl, Array.getElem?_append_left (by simp)]
      rfl
  · exact below_drew (((Below.refl _ _).alloc (Nat.le_refl _) _).alloc (by simp) _)
end Go.Proofs.YtdojmdbaiddkgaaGreatDoor.Print
end
section
set_option linter.unusedVariables false
set_option linter.unusedSimpArgs false
namespace Go.Proofs.YtdojmdbaiddkgaaGreatDoor.Print
open Go.RowKit Go.Proofs.YtdojmdbaiddkgaaGreatDoorW.PrintWords Go.Proofs.YtdojmdbaiddkgaaGreatDoorW.PrintLast
theorem mk3 (w : World) : (Instr.makeSlice 54 (.int .i64 0) (.int .i64 3)).run Tryz.prog w = .ok (.slice (some ⟨w.heap.size, 0, none⟩) 0 3) (w.alloc (.cells #[.string ⟨#[]⟩, .string ⟨#[]⟩, .string ⟨#[]⟩] 9)) := by kernel_rfl
theorem size156 : (Tryz.prog.info? 179).map (·.size) = some 257 := by kernel_rfl
theorem zsize : Tryz.zeroCells179.size = 257 := by kernel_rfl
theorem zone : Tryz.zeroCells179.all (·.oneCell') = true := by kernel_rfl
/-- The table, before a byte is laid. -/
noncomputable def T0 (g : Nat) : Array Value := (Tryz.zeroCells179.toList.set 256 (.slice (some ⟨g, 0, none⟩) 0 3)).toArray
theorem T0_size (g : Nat) : (T0 g).size = 257 := by unfold T0; rw [List.size_toArray, List.length_set, Array.length_toList]; exact zsize
theorem T0_one (g : Nat) : (T0 g).all (·.oneCell') = true := by
  unfold T0
  rw [List.all_toArray, List.all_eq_true]
  intro v hv
  rcases List.mem_or_eq_of_mem_set hv with h | rfl
  · have := zone
    rw [← Array.all_toList, List.all_eq_true] at this
    exact this v h
  · rfl
theorem zrep : Tryz.zeroCells179 = Array.replicate 257 (.slice none 0 0) := by kernel_rfl
theorem eql_nil (w : World) : (binOp .eql 82 (.slice none 0 0) (.slice none 0 0)).run Tryz.prog w = .ok (.bool true) w := by kernel_rfl
theorem T0_nil (g c : Nat) (hc : c < 256) : (T0 g)[c]? = some (.slice none 0 0) := by
  unfold T0
  rw [List.getElem?_toArray, List.getElem?_set_ne (by omega), Array.getElem?_toList]
  rw [zrep, Array.getElem?_replicate, if_pos (by omega)]
theorem T0_list (g : Nat) : (T0 g)[256]? = some (.slice (some ⟨g, 0, none⟩) 0 3) := by
  unfold T0
  rw [List.getElem?_toArray, List.getElem?_set_self (by rw [Array.length_toList, zsize]; omega)]
theorem put156 (w : World) (g : Nat) : (storeCells ⟨w.heap.size, 0, none⟩ (Tryz.zeroCells179.toList.set 256 (.slice (some ⟨g, 0, none⟩) 0 3)) 0).run Tryz.prog (w.alloc (.cells Tryz.zeroCells179 179)) = .ok () (w.alloc (.cells (T0 g) 179)) :=
  run_storeCells_new w 179 _ (T0 g) (by rw [size156, T0_size]) (by rw [zsize, T0_size]) (T0_one g)
theorem cv_byte (b : UInt8) (w : World) : (convert 82 9 (.slice (some ⟨w.heap.size, 0, none⟩) 1 1)).run Tryz.prog (w.alloc (.cells #[.int .u8 ((b.toNat : Nat) : Int)] 5)) = .ok (.string ⟨#[b]⟩) (w.alloc (.cells #[.int .u8 ((b.toNat : Nat) : Int)] 5)) :=
  run_convert_bytes_back (P := Tryz.prog) _ 82 9 5 ⟨w.heap.size, 0, none⟩ 1 [b] Tryz.underlying82 Tryz.underlying5 Tryz.underlying9 (fun j hj => by
    have hj0 : j = 0 := by simpa using hj
    subst hj0
    show (w.alloc _).cell? ⟨w.heap.size, 0, none⟩ = _
    rw [World.cell?_alloc_at _ _ _ _ rfl]; rfl)
/-- The bytes that are laid, in their order. -/
def ob (k : Nat) : Nat := if k = 0 then 34 else if k = 1 then 10 else 94
/-- The table of replacements while it is filled: so many bytes are laid. -/
structure Stage (w0 : World) (T Q : Nat) (k : Nat) (w : World) : Prop where
  bel : Below w0.heap.size w0 w
  tb : ∃ tc : Array Value, w.heap[T]? = some (.cells tc 9 (0, 0)) ∧ tc.size = 3 ∧ ∀ j, j < k → tc[j]? = some (.string ⟨#[(ob j).toUInt8]⟩)
  qb : ∃ qc : Array Value, w.heap[Q]? = some (.cells qc 179 (0, 0)) ∧ qc.size = 257 ∧ qc[256]? = some (.slice (some ⟨T, 0, none⟩) k 3) ∧
    (∀ c, c < 256 → (∀ j, j < k → c ≠ ob j) → qc[c]? = some (.slice none 0 0)) ∧
    (∀ j, j < k → ∃ q cap, qc[ob j]? = some (.slice (some ⟨q, 0, none⟩) 2 cap) ∧ 2 ≤ cap ∧ q ≠ T ∧ q ≠ Q ∧ w0.heap.size ≤ q ∧ w.cell? ⟨q, 0, none⟩ = some (.int .u8 94) ∧ w.cell? ⟨q, 1, none⟩ = some (.int .u8 (subB (ob j))))
theorem cv_str (s : ByteArray) (w : World) : ∃ w' cap, (convert 9 82 (.string s)).run Tryz.prog w = .ok (.slice (some ⟨w.heap.size, 0, none⟩) s.size cap) w' ∧ Below w.heap.size w w' ∧ s.size ≤ cap ∧ (∀ j, j < s.size → w'.cell? ⟨w.heap.size, j, none⟩ = some (.int .u8 ((s.data.toList.getD j 0).toNat : Nat))) := by
  refine ⟨Lib.bytesWorld w 5 s, _, Lib.run_convert_string_bytes w 9 82 5 s Tryz.underlying9 Tryz.underlying82 Tryz.underlying5, ?_, grownCap_ge _ _ _ _, fun j hj => Lib.bytesWorld_cell w 5 s j hj⟩
  refine ⟨?_, ?_, ?_, ?_, fun j hj => Lib.bytesWorld_at_old w 5 s j hj⟩
  · unfold Lib.bytesWorld World.freeze; split <;> rfl
  · unfold Lib.bytesWorld World.freeze; split <;> rfl
  · unfold Lib.bytesWorld World.freeze; split <;> rfl
  · rw [Lib.bytesWorld_size]; omega
theorem blkSetO {w : World} {g h : Nat} {j : Nat} {x : Option Obj} (hx : w.heap[g]? = x) (hne : g ≠ h) (u : Value) : (w.setCell ⟨h, j, none⟩ u).heap[g]? = x := by
  rw [Below.heap_setCell _ _ _ _ hne]; exact hx
theorem blkAl {w : World} {g : Nat} {x : Obj} (hx : w.heap[g]? = some x) (o : Obj) : (w.alloc o).heap[g]? = some x := by
  rw [Below.heap_alloc _ _ _ (Array.getElem?_eq_some_iff.1 hx).1]; exact hx
theorem ob_lt (k : Nat) : ob k < 256 := by unfold ob; split <;> (try split) <;> omega
theorem ob_ne {j k : Nat} (h : j < k) (hk : k < 3) : ob j ≠ ob k := by
  have : k = 1 ∨ k = 2 := by omega
  rcases this with rfl | rfl
  · obtain rfl : j = 0 := by omega
    decide
  · have : j = 0 ∨ j = 1 := by omega
    rcases this with rfl | rfl <;> decide
/-- The world in which a round's replacement is made. -/
def midW (T Q k : Nat) (o : UInt8) (wr : World) : World := (((wr.setCell ⟨T, k, none⟩ (.string ⟨#[o]⟩)).setCell ⟨Q, 256, none⟩ (.slice (some ⟨T, 0, none⟩) (k + 1) 3)).alloc (.cells #[.int .u8 ((o.toNat : Nat) : Int)] 5)).alloc (.cells #[.string ⟨#[o]⟩] 9)
theorem stage_step {w0 wr : World} {T Q k : Nat} (hS : Stage w0 T Q k wr) (hk : k < 3) (hT : w0.heap.size ≤ T) (hQ : w0.heap.size ≤ Q) (hTQ : T ≠ Q) {w' : World} {cap : Nat} (o : UInt8) (ho : o = (ob k).toUInt8)
    (hB : Below (midW T Q k o wr).heap.size (midW T Q k o wr) w') (hc : 2 ≤ cap)
    (c0 : w'.cell? ⟨(midW T Q k o wr).heap.size, 0, none⟩ = some (.int .u8 94)) (c1 : w'.cell? ⟨(midW T Q k o wr).heap.size, 1, none⟩ = some (.int .u8 (subB (ob k)))) :
    Stage w0 T Q (k + 1) (w'.setCell ⟨Q, ob k, none⟩ (.slice (some ⟨(midW T Q k o wr).heap.size, 0, none⟩) 2 cap)) := by
  obtain ⟨hb, ⟨tc, ht1, ht2, ht3⟩, ⟨qc, hq1, hq2, hq3, hq4, hq5⟩⟩ := hS
  have hTl : T < wr.heap.size := (Array.getElem?_eq_some_iff.1 ht1).1
  have hQl : Q < wr.heap.size := (Array.getElem?_eq_some_iff.1 hq1).1
  have hms : (midW T Q k o wr).heap.size = wr.heap.size + 2 := by unfold midW; simp
  have hw0 := hb.size
  have hobl := ob_lt k
  have bm : Below w0.heap.size w0 (midW T Q k o wr) :=
    (((hb.setCell (p := ⟨T, k, none⟩) hT _).setCell (p := ⟨Q, 256, none⟩) hQ _).alloc (by simp; omega) _).alloc (by simp; omega) _
  have bw : Below w0.heap.size w0 w' := bm.trans (hB.mono (by omega))
  have mt : (midW T Q k o wr).heap[T]? = some (.cells (tc.setIfInBounds k (.string ⟨#[o]⟩)) 9 (0, 0)) :=
    blkAl (blkAl (blkSetO (blkSet ht1 k _) hTQ _) _) _
  have mq : (midW T Q k o wr).heap[Q]? = some (.cells (qc.setIfInBounds 256 (.slice (some ⟨T, 0, none⟩) (k + 1) 3)) 179 (0, 0)) :=
    blkAl (blkAl (blkSet (blkSetO hq1 (Ne.symm hTQ) _) 256 _) _) _
  have wt := (hB.block T (by omega)).trans mt
  have wq := (hB.block Q (by omega)).trans mq
  refine ⟨bw.setCell (p := ⟨Q, ob k, none⟩) hQ _, ⟨_, blkSetO wt hTQ _, by rw [Array.size_setIfInBounds]; exact ht2, fun j hj => ?_⟩, ⟨_, blkSet wq _ _, by rw [Array.size_setIfInBounds, Array.size_setIfInBounds]; exact hq2, ?_, fun c hc' hne => ?_, fun j hj => ?_⟩⟩
  · by_cases h : j = k
    · subst h; rw [Array.getElem?_setIfInBounds_self_of_lt (by omega), ho]
    · rw [Array.getElem?_setIfInBounds_ne (by omega)]; exact ht3 j (by omega)
  · rw [Array.getElem?_setIfInBounds_ne (by omega), Array.getElem?_setIfInBounds_self_of_lt (by omega)]
  · have hck := hne k (by omega)
    rw [Array.getElem?_setIfInBounds_ne (by omega), Array.getElem?_setIfInBounds_ne (by omega)]
    exact hq4 c hc' (fun j hj => hne j (by omega))
  · by_cases h : j = k
    · subst h
      refine ⟨_, cap, by rw [Array.getElem?_setIfInBounds_self_of_lt (by rw [Array.size_setIfInBounds]; omega)], hc, by omega, by omega, by omega, ?_, ?_⟩
      · rw [World.cell?_setCell_other _ _ _ _ (by intro e; have := congrArg Addr.block e; simp at this; omega)]; exact c0
      · rw [World.cell?_setCell_other _ _ _ _ (by intro e; have := congrArg Addr.block e; simp at this; omega)]; exact c1
    · have hjk : j < k := by omega
      obtain ⟨q, cap', a1, a2, a3, a4, a7, a5, a6⟩ := hq5 j hjk
      have hql : q < wr.heap.size := cellLt a5
      have hob := ob_ne hjk hk
      have hobj := ob_lt j
      refine ⟨q, cap', by rw [Array.getElem?_setIfInBounds_ne (Ne.symm hob), Array.getElem?_setIfInBounds_ne (by omega)]; exact a1, a2, a3, a4, a7, ?_, ?_⟩
      all_goals
        rw [World.cell?_setCell_other _ _ _ _ (by intro e; have := congrArg Addr.block e; simp at this; omega)]
        refine (hB.cell (p := ⟨q, _, none⟩) (by show q < _; omega)).trans ?_
        unfold midW
        rw [World.cell?_alloc_lt _ _ _ (by simp; omega), World.cell?_alloc_lt _ _ _ (by simp; omega), World.cell?_setCell_other _ _ _ _ (by intro e; have := congrArg Addr.block e; simp at this; omega), World.cell?_setCell_other _ _ _ _ (by intro e; have := congrArg Addr.block e; simp at this; omega)]
        first | exact a5 | exact a6
/-- The table lies in blocks from a place on: what happens below it leaves it. -/
def RTA (B p : Nat) (w : World) : Prop := ∀ w' : World, (∀ k, B ≤ k → w'.heap[k]? = w.heap[k]?) → RT p w'
theorem RTA.rt {B p : Nat} {w : World} (h : RTA B p w) : RT p w := h w (fun _ _ => rfl)
theorem RTA.keep {B p : Nat} {w w' : World} (h : RTA B p w) (hk : ∀ k, B ≤ k → w'.heap[k]? = w.heap[k]?) : RTA B p w' := fun w2 h2 => h w2 (fun k hb => (h2 k hb).trans (hk k hb))
theorem RTA.set {B p : Nat} {w : World} (h : RTA B p w) (a : Addr) (ha : a.block < B) (u : Value) : RTA B p (w.setCell a u) := h.keep (fun k hk => Below.heap_setCell _ _ _ _ (by omega))
theorem RTA.drew {B p : Nat} {w : World} (h : RTA B p w) : RTA B p w.drew := h.keep (fun _ _ => rfl)
theorem rt_of_stage {w0 w : World} {T Q : Nat} (hT : w0.heap.size ≤ T) (hQ : w0.heap.size ≤ Q) (h : Stage w0 T Q 3 w) : RTA w0.heap.size Q w := by
  intro w' hk
  obtain ⟨hb, ⟨tc, ht1, ht2, ht3⟩, ⟨qc, hq1, hq2, hq3, hq4, hq5⟩⟩ := h
  rw [← hk T hT] at ht1
  rw [← hk Q hQ] at hq1
  refine ⟨fun c hc h1 h2 h3 => ?_, fun c hc => ?_, ⟨T, 3, by rw [cell_blk hq1]; exact hq3, Nat.le_refl _, by rw [cell_blk ht1]; exact ht3 0 (by omega), by rw [cell_blk ht1]; exact ht3 1 (by omega), by rw [cell_blk ht1]; exact ht3 2 (by omega)⟩⟩
  · rw [cell_blk hq1]
    refine hq4 c hc (fun j hj => ?_)
    have : j = 0 ∨ j = 1 ∨ j = 2 := by omega
    rcases this with rfl | rfl | rfl
    · exact h3
    · exact h2
    · exact h1
  · have : ∃ j, j < 3 ∧ c = ob j := by
      rcases hc with h | h | h
      · exact ⟨2, by omega, h⟩
      · exact ⟨1, by omega, h⟩
      · exact ⟨0, by omega, h⟩
    obtain ⟨j, hj, rfl⟩ := this
    obtain ⟨q, cap, a1, a2, a3, a4, a7, a5, a6⟩ := hq5 j hj
    exact ⟨q, cap, by rw [cell_blk hq1]; exact a1, a2, (World.cell?_of_block (w := w) (hk q a7)).trans a5, (World.cell?_of_block (w := w) (hk q a7)).trans a6⟩
theorem stage_zero (w : World) : Stage w w.heap.size (w.heap.size + 1) 0 ((w.alloc (.cells #[.string ⟨#[]⟩, .string ⟨#[]⟩, .string ⟨#[]⟩] 9)).alloc (.cells (T0 w.heap.size) 179)) := by
  have e1 := allocAt (w.alloc (.cells #[.string ⟨#[]⟩, .string ⟨#[]⟩, .string ⟨#[]⟩] 9)) (.cells (T0 w.heap.size) 179)
  rw [World.size_alloc] at e1
  refine ⟨((Below.refl _ _).alloc (Nat.le_refl _) _).alloc (by simp) _, ⟨_, blkAl (allocAt w _) _, rfl, fun j hj => by omega⟩, ⟨_, e1, T0_size _, T0_list _, fun c hc _ => T0_nil _ c hc, fun j hj => by omega⟩⟩
set_option maxHeartbeats 4000000 in
set_option maxRecDepth 100000 in
theorem build_walk (p c cap : Nat) (w : World) (hold : w.cell? ⟨p, 4, none⟩ = some (.slice (some ⟨c, 0, none⟩) 6 cap)) (h : Six c w) :
    Calls Tryz.prog 106 #[.pointer (some ⟨p, 0, none⟩)] w fun e w' => ∃ q : Nat, e = .returned (.iface 180 (.pointer (some ⟨q, 0, none⟩))) ∧ RTA w.heap.size q w' ∧ Below w.heap.size w w' := by
  obtain ⟨h0, h1, h2, h3, h4, h5⟩ := h
  have hmk := mk3
  have hnn := neq_nil
  have hput := put156 (w.alloc (.cells #[.string ⟨#[]⟩, .string ⟨#[]⟩, .string ⟨#[]⟩] 9)) w.heap.size
  rw [World.size_alloc] at hput
  go_enter Tryz.func106, Tryz.ntmps106
  go_wp2
  refine wp_loop_rounds 4 ?_
  rw [rounds_succ]
  go_wp2
  rw [rounds_succ]
  go_wp2
  rw [rounds_succ]
  go_wp2
  rw [rounds_succ]
  go_wp2
  have heq := eql_nil
  have hcl : c < w.heap.size := cellLt h0
  have HS0 := Aside0.mk (stage_zero w)
  obtain ⟨T, hT⟩ : ∃ T, T = w.heap.size := ⟨_, rfl⟩
  obtain ⟨Q, hQ⟩ : ∃ Q, Q = T + 1 := ⟨_, rfl⟩
  have HT := Aside0.mk hT
  have HQ := Aside0.mk hQ
  rw [← hT, ← hQ] at HS0 ⊢
  clear hT hQ hput hmk hold hnn
  go_loopg [12, 13, 14] 4 (fun g v12 v13 v14 wr => ∃ k : Nat, v12 = .int .i64 (4 - 2 * (k : Int)) ∧ k ≤ 3 ∧ Aside0 (3 ≤ k + g) ∧ Aside0 (Stage w T Q k wr))
  case atStart => exact ⟨0, rfl, by omega, ⟨by omega⟩, HS0⟩
  case round =>
    obtain ⟨k, rfl, hk, HK, HSt⟩ := hrel
    obtain ⟨hb, ⟨tc, ht1, ht2, ht3⟩, ⟨qc, hq1, hq2, hq3, hq4, hq5⟩⟩ := HSt.out
    rcases Nat.lt_or_ge k 3 with hlt | hge
    · cases gk with
      | zero => exfalso; have := HK.out; omega
      | succ g =>
      have qt : wr.cell? ⟨Q, 256, none⟩ = some (.slice (some ⟨T, 0, none⟩) k 3) := by rw [cell_blk hq1]; exact hq3
      have qn : wr.cell? ⟨Q, ob k, none⟩ = some (.slice none 0 0) := by
        rw [cell_blk hq1]; refine hq4 _ (by unfold ob; split <;> (try split) <;> omega) (fun j hj => ?_)
        unfold ob
        have : k = 0 ∨ k = 1 ∨ k = 2 := by omega
        rcases this with rfl | rfl | rfl
        · omega
        · obtain rfl : j = 0 := by omega
          decide
        · have : j = 0 ∨ j = 1 := by omega
          rcases this with rfl | rfl <;> decide
      have fz : ∀ j, wr.frozen? ⟨Q, j, none⟩ = false := fun j => froz_blk hq1 j
      have ft : ∀ j, wr.frozen? ⟨T, j, none⟩ = false := fun j => froz_blk ht1 j
      have htk : ∃ v, wr.cell? ⟨T, k, none⟩ = some v := ⟨tc[k]'(by omega), by rw [cell_blk ht1, Array.getElem?_eq_getElem]⟩
      obtain ⟨tv, htk⟩ := htk
      have g0 := (hb.cell (p := ⟨c, 0, none⟩) hcl).trans h0
      have g1 := (hb.cell (p := ⟨c, 1, none⟩) hcl).trans h1
      have g2 := (hb.cell (p := ⟨c, 2, none⟩) hcl).trans h2
      have g3 := (hb.cell (p := ⟨c, 3, none⟩) hcl).trans h3
      have g4 := (hb.cell (p := ⟨c, 4, none⟩) hcl).trans h4
      have g5 := (hb.cell (p := ⟨c, 5, none⟩) hcl).trans h5
      have hTl : T < wr.heap.size := cellLt htk
      have hQl : Q < wr.heap.size := cellLt qt
      clear hb ht1 ht2 ht3 hq1 hq2 hq3 hq4 hq5 h0 h1 h2 h3 h4 h5
      have hk3 : k = 0 ∨ k = 1 ∨ k = 2 := by omega
      rcases hk3 with rfl | rfl | rfl
      · have hz : ob 0 = 34 := rfl
        rw [hz] at qn
        clear hz
        have xo : (⟨#[34]⟩ : ByteArray)[0]'(by decide) = 34 := rfl
        have cv := cv_byte 34
        rw [show (((34 : UInt8).toNat : Nat) : Int) = 34 from rfl] at cv
        have yo : (34 : UInt8).toNat = 34 := rfl
        obtain ⟨w', cp, hrun, HB', hcp, hcl'⟩ := cv_str ⟨#[94, 39]⟩ (midW T Q 0 34 wr)
        have HM := Aside0.mk (show (midW T Q 0 34 wr).heap.size = wr.heap.size + 2 by unfold midW; simp)
        have z0 := hcl' 0 (by decide)
        have z1 := hcl' 1 (by decide)
        have qn' : w'.cell? ⟨Q, 34, none⟩ = some (.slice none 0 0) := by
          refine (HB'.cell (p := ⟨Q, 34, none⟩) (by have := HM.out; show Q < _; omega)).trans ?_
          unfold midW
          rw [World.cell?_alloc_lt _ _ _ (by simp; omega), World.cell?_alloc_lt _ _ _ (by simp; omega), World.cell?_setCell_other _ _ _ _ (by simp), World.cell?_setCell_other _ _ _ _ (by intro e; have := congrArg Addr.block e; simp at this; have := HQ.out; omega)]
          exact qn
        have fq' : w'.frozen? ⟨Q, 34, none⟩ = false := by
          refine (HB'.frozen (p := ⟨Q, 34, none⟩) (by have := HM.out; show Q < _; omega)).trans ?_
          unfold midW
          rw [World.frozen?_alloc_past _ _ _ (by simp; omega), World.frozen?_alloc_past _ _ _ (by simp; omega)]
          simp [fz]
        have HFin := Aside0.mk (stage_step HSt.out hlt (by have := HT.out; omega) (by have := HT.out; have := HQ.out; omega) (by have := HQ.out; omega) 34 rfl HB' hcp z0 z1)
        have hrun2 : (convert 9 82 (.string ⟨#[94, 39]⟩)).run Tryz.prog ((((wr.setCell ⟨T, 0, none⟩ (.string ⟨#[34]⟩)).setCell ⟨Q, 256, none⟩ (.slice (some ⟨T, 0, none⟩) 1 3)).alloc (.cells #[.int .u8 34] 5)).alloc (.cells #[.string ⟨#[34]⟩] 9)) = .ok (.slice (some ⟨(midW T Q 0 34 wr).heap.size, 0, none⟩) 2 cp) w' := hrun
        obtain ⟨G, hG⟩ : ∃ G, G = (midW T Q 0 34 wr).heap.size := ⟨_, rfl⟩
        rw [← hG] at hrun2 HFin
        clear hrun HB' hcp hcl' z0 z1 HM hG
        go_wp2
        go_roundg g
        case measure => have := HK.out; omega
        case rel => exact ⟨0 + 1, by first | rfl | (go_num; done), by omega, ⟨by have := HK.out; omega⟩, HFin⟩
      · have hz : ob 1 = 10 := rfl
        rw [hz] at qn
        clear hz
        have xo : (⟨#[10]⟩ : ByteArray)[0]'(by decide) = 10 := rfl
        have cv := cv_byte 10
        rw [show (((10 : UInt8).toNat : Nat) : Int) = 10 from rfl] at cv
        have yo : (10 : UInt8).toNat = 10 := rfl
        obtain ⟨w', cp, hrun, HB', hcp, hcl'⟩ := cv_str ⟨#[94, 110]⟩ (midW T Q 1 10 wr)
        have HM := Aside0.mk (show (midW T Q 1 10 wr).heap.size = wr.heap.size + 2 by unfold midW; simp)
        have z0 := hcl' 0 (by decide)
        have z1 := hcl' 1 (by decide)
        have qn' : w'.cell? ⟨Q, 10, none⟩ = some (.slice none 0 0) := by
          refine (HB'.cell (p := ⟨Q, 10, none⟩) (by have := HM.out; show Q < _; omega)).trans ?_
          unfold midW
          rw [World.cell?_alloc_lt _ _ _ (by simp; omega), World.cell?_alloc_lt _ _ _ (by simp; omega), World.cell?_setCell_other _ _ _ _ (by simp), World.cell?_setCell_other _ _ _ _ (by intro e; have := congrArg Addr.block e; simp at this; have := HQ.out; omega)]
          exact qn
        have fq' : w'.frozen? ⟨Q, 10, none⟩ = false := by
          refine (HB'.frozen (p := ⟨Q, 10, none⟩) (by have := HM.out; show Q < _; omega)).trans ?_
          unfold midW
          rw [World.frozen?_alloc_past _ _ _ (by simp; omega), World.frozen?_alloc_past _ _ _ (by simp; omega)]
          simp [fz]
        have HFin := Aside0.mk (stage_step HSt.out hlt (by have := HT.out; omega) (by have := HT.out; have := HQ.out; omega) (by have := HQ.out; omega) 10 rfl HB' hcp z0 z1)
        have hrun2 : (convert 9 82 (.string ⟨#[94, 110]⟩)).run Tryz.prog ((((wr.setCell ⟨T, 1, none⟩ (.string ⟨#[10]⟩)).setCell ⟨Q, 256, none⟩ (.slice (some ⟨T, 0, none⟩) 2 3)).alloc (.cells #[.int .u8 10] 5)).alloc (.cells #[.string ⟨#[10]⟩] 9)) = .ok (.slice (some ⟨(midW T Q 1 10 wr).heap.size, 0, none⟩) 2 cp) w' := hrun
        obtain ⟨G, hG⟩ : ∃ G, G = (midW T Q 1 10 wr).heap.size := ⟨_, rfl⟩
        rw [← hG] at hrun2 HFin
        clear hrun HB' hcp hcl' z0 z1 HM hG
        go_wp2
        go_roundg g
        case measure => have := HK.out; omega
        case rel => exact ⟨1 + 1, by first | rfl | (go_num; done), by omega, ⟨by have := HK.out; omega⟩, HFin⟩
      · have hz : ob 2 = 94 := rfl
        rw [hz] at qn
        clear hz
        have xo : (⟨#[94]⟩ : ByteArray)[0]'(by decide) = 94 := rfl
        have cv := cv_byte 94
        rw [show (((94 : UInt8).toNat : Nat) : Int) = 94 from rfl] at cv
        have yo : (94 : UInt8).toNat = 94 := rfl
        obtain ⟨w', cp, hrun, HB', hcp, hcl'⟩ := cv_str ⟨#[94, 94]⟩ (midW T Q 2 94 wr)
        have HM := Aside0.mk (show (midW T Q 2 94 wr).heap.size = wr.heap.size + 2 by unfold midW; simp)
        have z0 := hcl' 0 (by decide)
        have z1 := hcl' 1 (by decide)
        have qn' : w'.cell? ⟨Q, 94, none⟩ = some (.slice none 0 0) := by
          refine (HB'.cell (p := ⟨Q, 94, none⟩) (by have := HM.out; show Q < _; omega)).trans ?_
          unfold midW
          rw [World.cell?_alloc_lt _ _ _ (by simp; omega), World.cell?_alloc_lt _ _ _ (by simp; omega), World.cell?_setCell_other _ _ _ _ (by simp), World.cell?_setCell_other _ _ _ _ (by intro e; have := congrArg Addr.block e; simp at this; have := HQ.out; omega)]
          exact qn
        have fq' : w'.frozen? ⟨Q, 94, none⟩ = false := by
          refine (HB'.frozen (p := ⟨Q, 94, none⟩) (by have := HM.out; show Q < _; omega)).trans ?_
          unfold midW
          rw [World.frozen?_alloc_past _ _ _ (by simp; omega), World.frozen?_alloc_past _ _ _ (by simp; omega)]
          simp [fz]
        have HFin := Aside0.mk (stage_step HSt.out hlt (by have := HT.out; omega) (by have := HT.out; have := HQ.out; omega) (by have := HQ.out; omega) 94 rfl HB' hcp z0 z1)
        have hrun2 : (convert 9 82 (.string ⟨#[94, 94]⟩)).run Tryz.prog ((((wr.setCell ⟨T, 2, none⟩ (.string ⟨#[94]⟩)).setCell ⟨Q, 256, none⟩ (.slice (some ⟨T, 0, none⟩) 3 3)).alloc (.cells #[.int .u8 94] 5)).alloc (.cells #[.string ⟨#[94]⟩] 9)) = .ok (.slice (some ⟨(midW T Q 2 94 wr).heap.size, 0, none⟩) 2 cp) w' := hrun
        obtain ⟨G, hG⟩ : ∃ G, G = (midW T Q 2 94 wr).heap.size := ⟨_, rfl⟩
        rw [← hG] at hrun2 HFin
        clear hrun HB' hcp hcl' z0 z1 HM hG
        go_wp2
        go_roundg g
        case measure => have := HK.out; omega
        case rel => exact ⟨2 + 1, by first | rfl | (go_num; done), by omega, ⟨by have := HK.out; omega⟩, HFin⟩
    · have hk3 : k = 3 := by omega
      subst hk3
      go_wp2
      go_ret
      exact ⟨Q, rfl, rt_of_stage (by have := HT.out; omega) (by have := HT.out; have := HQ.out; omega) HSt.out, HSt.out.bel⟩
end Go.Proofs.YtdojmdbaiddkgaaGreatDoor.Print
end
section
set_option linter.unusedVariables false
set_option linter.unusedSimpArgs false
namespace Go.Proofs.YtdojmdbaiddkgaaGreatDoor.Print
open Go.RowKit Go.Proofs.YtdojmdbaiddkgaaGreatDoorW.PrintWords Go.Proofs.YtdojmdbaiddkgaaGreatDoorW.PrintLast
theorem on_disable (w : World) : (callFunc 122 #[]).run Tryz.prog w = .ok (.value (.tuple #[])) w := run_call_mark0 Tryz.func122 (by kernel_rfl) (by kernel_rfl) (by kernel_rfl) .disable (by kernel_rfl) w
theorem on_enable (w : World) : (callFunc 124 #[]).run Tryz.prog w = .ok (.value (.tuple #[])) w := run_call_mark0 Tryz.func124 (by kernel_rfl) (by kernel_rfl) (by kernel_rfl) .enable (by kernel_rfl) w
theorem on_acquire (a : Addr) (w : World) : (callFunc 125 #[.pointer (some a)]).run Tryz.prog w = .ok (.value (.tuple #[])) w := run_call_marked Tryz.func125 (by kernel_rfl) (by kernel_rfl) (by kernel_rfl) .acquire (by kernel_rfl) a w
theorem on_releaseMerge (a : Addr) (w : World) : (callFunc 127 #[.pointer (some a)]).run Tryz.prog w = .ok (.value (.tuple #[])) w := run_call_marked Tryz.func127 (by kernel_rfl) (by kernel_rfl) (by kernel_rfl) .releaseMerge (by kernel_rfl) a w
theorem on_store_deferred (a : Addr) (x : Value) (u : FrameMode) (w : World) (hc : w.cell? a = some x) (hz : w.frozen? a = false) :
    CallsD Tryz.prog 113 #[.pointer (some a), .bool true] u w fun e u' w' => u' = u ∧ (e = .returned (.tuple #[]) ∧ w' = w.drew.setCell a (.int .u32 1)) := by
  have hc' : w.drew.cell? a = some x := by go_simp
  have hz' : w.drew.frozen? a = false := by go_simp
  have hst := run_call_store (P := Tryz.prog) Tryz.func118 (by kernel_rfl) (by kernel_rfl) (by kernel_rfl) (by kernel_rfl) (k := .u32) (y := 1) hc' hz'
  go_enter_d Tryz.func113, Tryz.ntmps113
  go_wp2
  go_region_calls
  all_goals (go_end0; exact ⟨rfl, rfl⟩)
set_option maxRecDepth 100000 in
theorem on_lock_in (a : Addr) (w : World) (hc : w.cell? a = some (.int .i32 0)) (hz : w.frozen? a = false) :
    Calls Tryz.prog 116 #[.pointer (some a)] w fun e w' => e = .returned (.tuple #[]) ∧ w' = w.setCell a (.int .i32 1) := by
  have hd := on_disable
  have he := on_enable
  have ha := on_acquire
  have hcas := run_call_cas_hit (P := Tryz.prog) Tryz.func123 (by kernel_rfl) (by kernel_rfl) (by kernel_rfl) .i32 (by kernel_rfl) (y := 1) hc hz
  have hc' : (w.setCell a (.int .i32 1)).cell? a = some (.int .i32 1) := World.cell?_setCell_same w a _ hc
  have hcv := run_convert_to_unsafe (P := Tryz.prog) (src := 195) (dst := 143) Tryz.underlying195 Tryz.underlying143 (by kernel_rfl) hc'
  go_enter Tryz.func116, Tryz.ntmps116
  go_wp2
  first | go_end0 | (simp only [Exit.inBlock, Exit.then]; refine bodyPost_ret (results_none rfl _ _ _) rfl ?_) | refine bodyPost_ret (results_none rfl _ _ _) rfl ?_
  exact ⟨rfl, rfl⟩
theorem on_lock (a : Addr) (w : World) (hc : w.cell? a = some (.int .i32 0)) (hz : w.frozen? a = false) :
    Calls Tryz.prog 111 #[.pointer (some a)] w fun e w' => e = .returned (.tuple #[]) ∧ w' = w.setCell a (.int .i32 1) := by
  go_enter Tryz.func111, Tryz.ntmps111
  go_wp2_with (go_at_call 116; refine (on_lock_in a _ hc hz).mono ?_; rintro e w' ⟨rfl, rfl⟩)
  go_end0
  exact ⟨rfl, rfl⟩
set_option maxRecDepth 100000 in
theorem on_unlock_in (a : Addr) (w : World) (hc : w.cell? a = some (.int .i32 1)) (hz : w.frozen? a = false) :
    Calls Tryz.prog 117 #[.pointer (some a)] w fun e w' => e = .returned (.tuple #[]) ∧ w' = w.setCell a (.int .i32 0) := by
  have hd := on_disable
  have he := on_enable
  have hr := on_releaseMerge
  have hadd := run_call_add (P := Tryz.prog) Tryz.func128 (by kernel_rfl) (by kernel_rfl) (by kernel_rfl) .i32 (by kernel_rfl) (y := -1) (s := 0) hc hz (by simp [go_sem]; rfl)
  have hcv := run_convert_to_unsafe (P := Tryz.prog) (src := 195) (dst := 143) Tryz.underlying195 Tryz.underlying143 (by kernel_rfl) hc
  go_enter Tryz.func117, Tryz.ntmps117
  go_wp2
  go_end0
  exact ⟨rfl, rfl⟩
theorem on_unlock_deferred (a : Addr) (u : FrameMode) (w : World) (hc : w.cell? a = some (.int .i32 1)) (hz : w.frozen? a = false) :
    CallsD Tryz.prog 112 #[.pointer (some a)] u w fun e u' w' => u' = u ∧ (e = .returned (.tuple #[]) ∧ w' = w.setCell a (.int .i32 0)) := by
  go_enter_d Tryz.func112, Tryz.ntmps112
  go_wp2_with (go_at_call 117; refine (on_unlock_in a _ hc hz).mono ?_; rintro e w' ⟨rfl, rfl⟩)
  go_end0
  exact ⟨rfl, rfl⟩
/-- What buildOnce leaves. -/
def OnB (p : Nat) (w : World) (e : Ending) (w' : World) : Prop := ∃ q w1, e = .returned (.tuple #[]) ∧ RTA w.heap.size q w1 ∧ Below w.heap.size w w1 ∧ w' = (w1.setCell ⟨p, 3, none⟩ (.iface 180 (.pointer (some ⟨q, 0, none⟩)))).setCell ⟨p, 4, none⟩ (.slice none 0 0)
set_option maxRecDepth 100000 in
theorem buildOnce_walk (p c cap : Nat) (w : World) (h3 : w.cell? ⟨p, 3, none⟩ = some .nilIface) (h4 : w.cell? ⟨p, 4, none⟩ = some (.slice (some ⟨c, 0, none⟩) 6 cap)) (f3 : w.frozen? ⟨p, 3, none⟩ = false) (f4 : w.frozen? ⟨p, 4, none⟩ = false) (six : Six c w) :
    Calls Tryz.prog 96 #[.pointer (some ⟨p, 0, none⟩)] w (OnB p w) := by
  have hpl : p < w.heap.size := cellLt h3
  have HS := Aside0.mk six
  clear six
  go_enter Tryz.func96, Tryz.ntmps96
  go_wp2_with fail
  go_at_call 106
  refine (build_walk p c cap _ h4 HS.out).mono ?_
  rintro e w1 ⟨q, rfl, hR, hB⟩
  have g3 := (hB.cell (p := ⟨p, 3, none⟩) hpl).trans h3
  have g4 := (hB.cell (p := ⟨p, 4, none⟩) hpl).trans h4
  have e3 := (hB.frozen (p := ⟨p, 3, none⟩) hpl).trans f3
  have e4 := (hB.frozen (p := ⟨p, 4, none⟩) hpl).trans f4
  have HF := Aside0.mk (And.intro hR hB)
  clear hR hB
  go_wp2_with fail
  go_end0
  exact ⟨q, w1, rfl, HF.out.1, HF.out.2, rfl⟩
theorem on_load (a : Addr) (w : World) (h : w.cell? a = some (.int .u32 0)) :
    Calls Tryz.prog 104 #[.pointer (some a)] w fun e w' => e = .returned (.bool false) ∧ w' = w := by
  have hl := run_call_load (P := Tryz.prog) Tryz.func110 (by kernel_rfl) (by kernel_rfl) (by kernel_rfl) .u32 (by kernel_rfl) h
  go_enter Tryz.func104, Tryz.ntmps104
  go_wp2
  go_ret
  exact ⟨rfl, rfl⟩
/-- What the first Do leaves. -/
def OnD (p : Nat) (w : World) (e : Ending) (w' : World) : Prop := ∃ q, e = .returned (.tuple #[]) ∧ RTA w.heap.size q w' ∧ w'.cell? ⟨p, 3, none⟩ = some (.iface 180 (.pointer (some ⟨q, 0, none⟩))) ∧ Below p w w'
theorem oneOff {p i j : Nat} (h : i ≠ j) : (⟨p, i, none⟩ : Addr) ≠ ⟨p, j, none⟩ := fun e => h (congrArg Addr.off e)
set_option maxRecDepth 100000 in
set_option maxHeartbeats 1600000 in
theorem slow_walk (p c cap : Nat) (w : World) (h0 : w.cell? ⟨p, 0, none⟩ = some (.int .u32 0)) (h1 : w.cell? ⟨p, 1, none⟩ = some (.int .i32 0)) (h3 : w.cell? ⟨p, 3, none⟩ = some .nilIface) (h4 : w.cell? ⟨p, 4, none⟩ = some (.slice (some ⟨c, 0, none⟩) 6 cap))
    (fz : ∀ i, w.frozen? ⟨p, i, none⟩ = false) (six : Six c w) (hcp : c < p) :
    Calls Tryz.prog 105 #[.pointer (some ⟨p, 0, none⟩), .func (.func 96) #[.pointer (some ⟨p, 0, none⟩)] #[]] w (OnD p w) := by
  have hpl : p < w.heap.size := cellLt h0
  have g0 : (w.setCell ⟨p, 1, none⟩ (.int .i32 1)).cell? ⟨p, 0, none⟩ = some (.int .u32 0) := (World.cell?_setCell_other _ _ _ _ (oneOff (by omega))).trans h0
  have g3 : (w.setCell ⟨p, 1, none⟩ (.int .i32 1)).cell? ⟨p, 3, none⟩ = some .nilIface := (World.cell?_setCell_other _ _ _ _ (oneOff (by omega))).trans h3
  have g4 : (w.setCell ⟨p, 1, none⟩ (.int .i32 1)).cell? ⟨p, 4, none⟩ = some (.slice (some ⟨c, 0, none⟩) 6 cap) := (World.cell?_setCell_other _ _ _ _ (oneOff (by omega))).trans h4
  have f3 : (w.setCell ⟨p, 1, none⟩ (.int .i32 1)).frozen? ⟨p, 3, none⟩ = false := by simp [fz]
  have f4 : (w.setCell ⟨p, 1, none⟩ (.int .i32 1)).frozen? ⟨p, 4, none⟩ = false := by simp [fz]
  have six1 : Six c (w.setCell ⟨p, 1, none⟩ (.int .i32 1)) := by
    have ne : ∀ i, (⟨p, 1, none⟩ : Addr) ≠ ⟨c, i, none⟩ := fun i e => by have := congrArg Addr.block e; simp at this; omega
    exact ⟨(World.cell?_setCell_other _ _ _ _ (ne _)).trans six.h0, (World.cell?_setCell_other _ _ _ _ (ne _)).trans six.h1, (World.cell?_setCell_other _ _ _ _ (ne _)).trans six.h2, (World.cell?_setCell_other _ _ _ _ (ne _)).trans six.h3, (World.cell?_setCell_other _ _ _ _ (ne _)).trans six.h4, (World.cell?_setCell_other _ _ _ _ (ne _)).trans six.h5⟩
  have HS := Aside0.mk six1
  clear six six1
  have hsz : (w.setCell ⟨p, 1, none⟩ (.int .i32 1)).heap.size = w.heap.size := by simp
  have HZ := Aside0.mk hsz
  clear hsz
  have hnot : ∀ (x : Bool) (w : World), (Op.unary .not (.bool x)).run Tryz.prog w = .ok (.bool (!x)) w := fun _ _ => rfl
  have hz1 := fz 1
  go_enter_defers Tryz.func105, Tryz.ntmps105
  go_wp2_with (first | (go_at_call 111; refine (on_lock ⟨p, 1, none⟩ _ h1 hz1).mono ?_; rintro e w' ⟨rfl, rfl⟩) | (go_at_call 104; refine (on_load ⟨p, 0, none⟩ _ g0).mono ?_; rintro e w' ⟨rfl, rfl⟩))
  go_at_call 96
  refine (buildOnce_walk p c cap _ g3 g4 f3 f4 HS.out).mono ?_
  rintro e w2 ⟨q, w1, rfl, hR, hB, rfl⟩
  have HF := Aside0.mk (And.intro hR hB)
  clear hR hB
  have hpl1 : p < w1.heap.size := by have := HF.out.2.size; have := HZ.out; omega
  have k0 := (HF.out.2.cell (p := ⟨p, 0, none⟩) (by rw [HZ.out]; exact hpl)).trans g0
  have k1 := (HF.out.2.cell (p := ⟨p, 1, none⟩) (by rw [HZ.out]; exact hpl)).trans (World.cell?_setCell_same w ⟨p, 1, none⟩ (.int .i32 1) h1)
  have k3 := (HF.out.2.cell (p := ⟨p, 3, none⟩) (by rw [HZ.out]; exact hpl)).trans g3
  have zf : ∀ i, w1.frozen? ⟨p, i, none⟩ = false := fun i => (HF.out.2.frozen (p := ⟨p, i, none⟩) (by rw [HZ.out]; exact hpl)).trans (by simp [fz])
  go_wp2_with fail
  refine leaves_cons (f := 113) (args := #[.pointer (some ⟨p, 0, none⟩), .bool true]) (by simp) (by simp [go_sem]) ?_
  refine (on_store_deferred ⟨p, 0, none⟩ (.int .u32 0) .returning _ ?_ (by simp [zf])).mono ?_
  · exact (World.cell?_setCell_other _ _ _ _ (oneOff (by omega))).trans ((World.cell?_setCell_other _ _ _ _ (oneOff (by omega))).trans k0)
  rintro e u' w'' ⟨rfl, rfl, rfl⟩
  refine leaves_cons (f := 112) (args := #[.pointer (some ⟨p, 1, none⟩)]) (by simp [settle]) (by simp [go_sem]) ?_
  refine (on_unlock_deferred ⟨p, 1, none⟩ _ _ ?_ (by simp [zf])).mono ?_
  · refine (World.cell?_setCell_other _ _ _ _ (oneOff (by omega))).trans ?_
    rw [World.cell?_drew]
    exact (World.cell?_setCell_other _ _ _ _ (oneOff (by omega))).trans ((World.cell?_setCell_other _ _ _ _ (oneOff (by omega))).trans k1)
  rintro e u' w'' ⟨rfl, rfl, rfl⟩
  have hR := HF.out.1
  rw [HZ.out] at hR
  have hfin : OnD p w (.returned (.tuple #[])) ((((w1.setCell ⟨p, 3, none⟩ (.iface 180 (.pointer (some ⟨q, 0, none⟩)))).setCell ⟨p, 4, none⟩ (.slice none 0 0)).drew.setCell ⟨p, 0, none⟩ (.int .u32 1)).setCell ⟨p, 1, none⟩ (.int .i32 0)) := by
    refine ⟨q, rfl, ((((hR.set ⟨p, 3, none⟩ hpl _).set ⟨p, 4, none⟩ hpl _).drew).set ⟨p, 0, none⟩ hpl _).set ⟨p, 1, none⟩ hpl _, ?_, ?_⟩
    · rw [World.cell?_setCell_other _ _ _ _ (oneOff (by omega)), World.cell?_setCell_other _ _ _ _ (oneOff (by omega)), World.cell?_drew, World.cell?_setCell_other _ _ _ _ (oneOff (by omega))]
      exact World.cell?_setCell_same _ _ _ k3
    · have b0 := ((Below.refl p w).setCell (p := ⟨p, 1, none⟩) (Nat.le_refl _) (.int .i32 1)).trans (HF.out.2.mono (by rw [HZ.out]; omega))
      exact ((((b0.setCell (p := ⟨p, 3, none⟩) (Nat.le_refl _) _).setCell (p := ⟨p, 4, none⟩) (Nat.le_refl _) _).drew).setCell (p := ⟨p, 0, none⟩) (Nat.le_refl _) _).setCell (p := ⟨p, 1, none⟩) (Nat.le_refl _) _
  simp only [Leaves, settle, results, Tryz.results105]
  exact ⟨_, by simp, hfin⟩
set_option maxRecDepth 100000 in
theorem do_walk (p c cap : Nat) (w : World) (h0 : w.cell? ⟨p, 0, none⟩ = some (.int .u32 0)) (h1 : w.cell? ⟨p, 1, none⟩ = some (.int .i32 0)) (h3 : w.cell? ⟨p, 3, none⟩ = some .nilIface) (h4 : w.cell? ⟨p, 4, none⟩ = some (.slice (some ⟨c, 0, none⟩) 6 cap))
    (fz : ∀ i, w.frozen? ⟨p, i, none⟩ = false) (six : Six c w) (hcp : c < p) :
    Calls Tryz.prog 95 #[.pointer (some ⟨p, 0, none⟩), .func (.func 96) #[.pointer (some ⟨p, 0, none⟩)] #[]] w (OnD p w) := by
  have HS := Aside0.mk six
  clear six
  have hnot : ∀ (x : Bool) (w : World), (Op.unary .not (.bool x)).run Tryz.prog w = .ok (.bool (!x)) w := fun _ _ => rfl
  go_enter Tryz.func95, Tryz.ntmps95
  go_wp2_with (go_at_call 104; refine (on_load ⟨p, 0, none⟩ _ h0).mono ?_; rintro e w' ⟨rfl, rfl⟩)
  go_at_call 105
  refine (slow_walk p c cap _ h0 h1 h3 h4 fz HS.out hcp).mono ?_
  rintro e w2 ⟨q, rfl, hR, h8, hB⟩
  have HF := Aside0.mk (And.intro hR (And.intro h8 hB))
  clear hR hB h8
  go_wp2_with fail
  go_end0
  exact ⟨q, rfl, HF.out⟩
theorem meth_Replace (q : Nat) (w : World) : (Go.method 339 180 (.pointer (some ⟨q, 0, none⟩)) "Replace").run Tryz.prog w = .ok (167, .pointer (some ⟨q, 0, none⟩)) w := by kernel_rfl
set_option maxRecDepth 100000 in
theorem repl_walk (p c cap : Nat) (s : ByteArray) (w : World) (h : RN p c cap w) (hcp : c < p) (hs : s.size ≤ 2000000000) :
    Calls Tryz.prog 81 #[.pointer (some ⟨p, 0, none⟩), .string s] w fun e w' => e = .returned (.string ⟨(parT s.data.toList).toArray⟩) ∧ Below p w w' := by
  have h0 : w.cell? ⟨p, 0, none⟩ = some (.int .u32 0) := by rw [cell_blk h.blk]; rfl
  have h1 : w.cell? ⟨p, 1, none⟩ = some (.int .i32 0) := by rw [cell_blk h.blk]; rfl
  have h3 : w.cell? ⟨p, 3, none⟩ = some .nilIface := by rw [cell_blk h.blk]; rfl
  have h4 : w.cell? ⟨p, 4, none⟩ = some (.slice (some ⟨c, 0, none⟩) 6 cap) := by rw [cell_blk h.blk]; rfl
  have fz : ∀ i, w.frozen? ⟨p, i, none⟩ = false := fun i => froz_blk h.blk i
  have HS := Aside0.mk h.six
  have hpl : p < w.heap.size := cellLt h0
  have hmf : ∀ (fn : Fn) (first cap : Array Value) (w : World), (Instr.makeFunc fn first cap).run Tryz.prog w = .ok (.func fn first cap) w := fun _ _ _ _ => rfl
  clear h
  go_enter Tryz.func81, Tryz.ntmps81
  go_wp2_with fail
  go_at_call 95
  refine (do_walk p c cap _ h0 h1 h3 h4 fz HS.out hcp).mono ?_
  rintro e w2 ⟨q, rfl, hR, h8, hB⟩
  have HF := Aside0.mk (And.intro hR hB)
  clear hR hB h0 h1 h3 h4 fz
  have hme := meth_Replace
  go_wp2_with fail
  go_at_call 167
  refine (bsr_walk q s _ HF.out.1.rt hs).mono ?_
  rintro e w3 ⟨rfl, hB3⟩
  have H3 := Aside0.mk hB3
  clear hB3
  go_wp2_with fail
  go_ret
  exact ⟨rfl, HF.out.2.trans (H3.out.mono (by have := HF.out.2.size; omega))⟩
end Go.Proofs.YtdojmdbaiddkgaaGreatDoor.Print
end
