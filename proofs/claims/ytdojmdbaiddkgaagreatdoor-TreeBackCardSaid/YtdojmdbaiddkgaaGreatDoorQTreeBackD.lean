/- Texts of the proof of TreeBack, put together: Print7 PLine0T Print8 Print14 PTree TArgs PUtf0U PUtfU PFormU PValU PParU PPrintU PFoldBU PTreePU TArgsSU PTreeQU PBackBU PBackPU Print15. -/
import Derived.Test.YtdojmdbaiddkgaaGreatDoorProg
import Derived.Below
import Derived.Deep.Draws
import Derived.Deep.AppendLies
import Derived.Maps.AppendAt
import Derived.OwnWalk
import Derived.Laws.BytesArg
import Derived.Laws.MakeOwn
import Derived.Laws.OwnMore
import Derived.Deep.OwnRows
import Derived.Tactics
import Derived.Lib.ConvBytes
import Derived.Laws.Slices
import Derived.WalkKit
import Derived.KernelRfl
import Derived.RowKit3
import Derived.Deep.LoopGhost
import Derived.Deep.QuietTactic
import Derived.BigQuiet
import Derived.WideLaws
import Derived.Deep.DeepCutAuto
import Derived.Deep.CutBlock
import Derived.Deep.RegionHeld3
import Derived.Laws.Rows
import Derived.Lib.AppendStr
import Derived.ArgAppend
import Derived.Laws.IdiomCopy
import Derived.OrdersHeld
import Derived.Laws.BitsLemmas
import Derived.RowKit
import Derived.Test.YtdojmdbaiddkgaaGreatDoorQTreeBackWMore
import Derived.Shelf.Unicode.ValidAny
import Derived.Shelf.Strings.Builder1
import Derived.Shelf.Strings.Builder2
import Derived.Shelf.Small.Utf8
import Derived.Shelf.Small.Strs
import Derived.Shelf.Strings.BuilderF
import Derived.Shelf.Strings.BuilderK
import Derived.Shelf.Strings.Builder2Cap
import Derived.Shelf.Strings.Search1
import Derived.Shelf.Strings.Search2
import Derived.Shelf.Strings.Search3
import Derived.Shelf.Strings.Count
import Derived.Shelf.LaysM
import Derived.Shelf.Strings.Shaped
import Derived.Shelf.Strings.Prefix
import Derived.Shelf.Strings.Runes
import Derived.Shelf.Strings.IndexAny
import Derived.Shelf.Strings.AsciiSet
import Derived.Shelf.Strings.IndexAnyAll
import Derived.Shelf.Unicode.DecodeSlow
import Derived.Shelf.Unicode.DecodeAny
import Derived.Shelf.Strings.BuilderCap
import Derived.Shelf.Slices.Equal
import Derived.Shelf.Slices.Empties2
import Derived.WalkSpells
import Derived.Laws.Runes
import Derived.Laws.RangeAny
import Derived.Laws.RangeString
import Derived.Lib.IndexAny
import Derived.Lib.SpaceUEq
import Derived.Lib.RuneCount
import Derived.Lib.QuoteLoop
import Derived.Lib.Hide
import Derived.Lib.OthersKept
import Derived.Lib.DecodeN
import Derived.IntWalk
import Derived.Test.YtdojmdbaiddkgaaGreatDoorQTreeBackWWords
import Derived.Test.YtdojmdbaiddkgaaGreatDoorQTreeBackWLast
import Derived.Test.YtdojmdbaiddkgaaGreatDoorQTreeBackWTab
import Derived.Test.YtdojmdbaiddkgaaGreatDoorQTreeBackWQPut
import Derived.Test.YtdojmdbaiddkgaaGreatDoorQTreeBackWApart
import Derived.Test.YtdojmdbaiddkgaaGreatDoorQTreeBackWArr
import Derived.Test.YtdojmdbaiddkgaaGreatDoorQTreeBackWZeros
import Derived.Test.YtdojmdbaiddkgaaGreatDoorQTreeBackWFoot
import Derived.Test.YtdojmdbaiddkgaaGreatDoorQTreeBackWKept
import Derived.Test.YtdojmdbaiddkgaaGreatDoorQTreeBackWShare
import Derived.Test.YtdojmdbaiddkgaaGreatDoorQTreeBackWN
import Derived.Test.YtdojmdbaiddkgaaGreatDoorQTreeBackWRepsOne
import Derived.Test.YtdojmdbaiddkgaaGreatDoorQTreeBackWInv
import Derived.Test.YtdojmdbaiddkgaaGreatDoorQTreeBackWGuard
import Derived.Test.YtdojmdbaiddkgaaGreatDoorQTreeBackWNEv
import Derived.Laws.NewBlocks
import Derived.Outline
import Derived.Laws.CopyRow
import Derived.Laws.CopyOwn
import Derived.Deep.RegionWith
import Derived.Deep.WholeRow
import Derived.Tactics2
import Derived.Defers
import Derived.Laws.Pointers
import Derived.Laws.LoneSync
import Derived.RegionTactic
import Derived.RegionCalls
import Derived.Lib.TrimUEq
import Derived.Lib.MapLaws
import Derived.Lib.SmallJoins
import Derived.Shelf.Unicode.DecodeLastEight
import Derived.Laws.IdiomStrings
import Derived.Lib.IndexLaws
import Derived.SliceStrings
import Derived.ProofKit
import Derived.SizedLaws
import Derived.Deep.Slices
import Derived.Lib.ValidU
import Derived.Lib.ValidLaws
import Derived.Lib.LazyBuf
import Derived.Test.YtdojmdbaiddkgaaGreatDoorQTreeBackC
section
namespace Go.Proofs.YtdojmdbaiddkgaaGreatDoor.Print
open Go.RowKit Go.Proofs.YtdojmdbaiddkgaaGreatDoorW.PrintWords Go.Proofs.YtdojmdbaiddkgaaGreatDoorW.PrintLast Go.Proofs.YtdojmdbaiddkgaaGreatDoorW.PrintMore
set_option linter.unusedVariables false
set_option linter.unusedSimpArgs false
def trystlaw10_Theirs.l0 : Nat → Int → Int → ByteArray → List (S76) → ByteArray → ByteArray → List (S77) → ByteArray → Option (ByteArray × (List (S77)) × ByteArray)
 | 0, _, _, _, _, _, _, _, _ => none
 | k + 1, x12, x13, x196000, x196001, x196002, x198000, x198001, x198002 => if x13 < x12 then (if 0 ≤ x13 then (if x13 < (x196001.length : Int) then ((some (([] : List ByteArray) : List ByteArray)).bind fun y199 => (if y199.length + ((rd_T76 x196001 x13).f1).length < 8796093022208 then (if x198001.length < 3518437208883 then (trystlaw10_Theirs.l0 k x12 (wrap64 (x13 + 1)) x196000 x196001 x196002 x198000 (x198001 ++ [(⟨(rd_T76 x196001 x13).f0, (y199 ++ ((rd_T76 x196001 x13).f1))⟩ : S77)]) x198002) else (none)) else (none))) else (none)) else (none)) else (some (x198000, x198001, x198002))
def trystlaw10_Theirs.f (k : Nat) (a0_0 : ByteArray) (l0_1 : List (S76)) (a0_2 : ByteArray) : Option (ByteArray × (List (S77)) × ByteArray) := trystlaw10_Theirs.l0 k (l0_1.length : Int) 0 a0_0 l0_1 a0_2 a0_0 ([] : List (S77)) a0_2
def trystlaw10_Theirs.T5 : Bool × List (List Nat × List Nat) := (true, [([], []), ([0], [0]), ([], []), ([2], [2]), ([], []), ([3, 4], [3, 4]), ([5], [5]), ([6], [6]), ([], []), ([], []), ([9], [9]), ([], []), ([10, 11], [10, 11]), ([12], [12]), ([13], [13]), ([8, 14], [8, 14]), ([7, 15], [7, 15]), ([16], [16]), ([1, 17, 15], [1, 17]), ([0, 1, 2, 3, 4, 5, 6, 7, 8, 9, 10, 11, 12, 13, 14, 15, 16, 17, 18], []), ([19, 18, 18, 0, 1, 2, 3, 4, 5, 6, 7, 8, 9, 10, 11, 12, 13, 14, 15, 16, 17, 18], [18, 19])])
def trystlaw10_Theirs.B5 : List Nat := [0, 1, 0, 4, 0, 28, 60, 124, 0, 0, 512, 0, 3584, 7680, 15872, 32512, 65532, 131068, 262143, 524287, 1048575]
theorem trystlaw10_Theirs.tab5 : rtab .any (opsOf Tryz.f20 5) = trystlaw10_Theirs.T5 := by kernel_rfl
theorem trystlaw10_Theirs.bits5 : waitsOk trystlaw10_Theirs.T5.2 trystlaw10_Theirs.B5 = true := by kernel_rfl
set_option maxHeartbeats 8000000 in
set_option maxRecDepth 100000 in
theorem trystlaw10_Theirs.calls (k : Nat) (a0_0 : ByteArray) (A0_1 : Option Addr) (c0_1 : Nat) (l0_1 : List (S76)) (a0_2 : ByteArray) (r1 : ByteArray) (r2 : List (S77)) (r3 : ByteArray) (w : World) (hG : GG w) (hr0_1 : Kd.C k76 w A0_1 l0_1.length l0_1) (hc0_1 : l0_1.length ≤ c0_1) (h : trystlaw10_Theirs.f k a0_0 l0_1 a0_2 = some (r1, r2, r3)) :
  Calls Tryz.prog 20 #[.agg #[.string a0_0, .slice A0_1 l0_1.length c0_1, .string a0_2]] w fun e w' => ∃ v1_ : Value, e = .returned (.agg #[.string r1, v1_, .string r3]) ∧ Kd.S k77 77 w' w.heap.size (fun _ => True) v1_ r2 ∧ Below w.heap.size w w' := by
 have hu53 := Tryz.underlying53; have hu49 := Tryz.underlying49; have hu77 := Tryz.underlying77; have HR0_1 := Aside0.mk hr0_1; have HC0_1 := Aside0.mk hc0_1; clear hr0_1 hc0_1; have HB := Aside0.mk (Below.refl w.heap.size w); have H : (trystlaw10_Theirs.l0 k (l0_1.length : Int) 0 a0_0 l0_1 a0_2 a0_0 ([] : List (S77)) a0_2) = some (r1, r2, r3) := h; clear h; have H' := Aside0.mk H; clear H
 go_enter Tryz.func20, Tryz.ntmps20
 go_wp2_with (first | ((with_reducible refine gate_dst (N := 1) rfl ?_); refine zbox (N := 1) #[.string a0_0, .slice A0_1 l0_1.length c0_1, .string a0_2] 53 (fun gb195 hg w2 hbox hb => ?_); replace BK195 := Aside0.mk hbox; replace GE195 := zg w hg; replace HB := zw hb; clear hb hbox hg) | ((with_reducible refine gate_dst (N := 2) rfl ?_); refine zbox (N := 2) #[.string (⟨#[]⟩ : ByteArray), .slice none 0 0, .string (⟨#[]⟩ : ByteArray)] 49 (fun gb196 hg w3 hbox hb => ?_); replace BK196 := Aside0.mk hbox; replace GE196 := zg w hg; replace HB := zw hb; replace NB195_196 := zn BK195 hg; replace NB196_195 := zm BK195 hg; replace BK195 := zb BK195 hb; clear hb hbox hg; have hnb4 := NB195_196.out; have hnc4 := NB196_195.out; obtain ⟨hcz5_0, hcz5_1, hcz5_2, hfz5_0, hfz5_1, hfz5_2⟩ := zk3 BK195) | ((with_reducible refine gate_dst (N := 3) rfl ?_); refine zbox (N := 3) #[.string (⟨#[]⟩ : ByteArray), .slice none 0 0, .string (⟨#[]⟩ : ByteArray)] 49 (fun gb197 hg w6 hbox hb => ?_); replace BK197 := Aside0.mk hbox; replace GE197 := zg w hg; replace HB := zw hb; replace NB195_197 := zn BK195 hg; replace NB197_195 := zm BK195 hg; replace BK195 := zb BK195 hb; replace NB196_197 := zn BK196 hg; replace NB197_196 := zm BK196 hg; replace BK196 := zb BK196 hb; clear hb hbox hg; have hnb7 := NB197_195.out; have hnc7 := NB195_197.out; have hnb8 := NB197_196.out; have hnc8 := NB196_197.out; obtain ⟨hcz9_0, hcz9_1, hcz9_2, hfz9_0, hfz9_1, hfz9_2⟩ := zk3 BK197; obtain ⟨hcz10_0, hcz10_1, hcz10_2, hfz10_0, hfz10_1, hfz10_2⟩ := zk3 BK195))
 go_loopg [13] k (fun kq v13 w' => ∃ (x13_1 : Int) (x198001_1 : List (S77)) (u198001 : Value), v13 = .int .i64 x13_1 ∧ Aside0 (trystlaw10_Theirs.l0 kq (l0_1.length : Int) x13_1 a0_0 l0_1 a0_2 a0_0 x198001_1 a0_2 = some (r1, r2, r3)) ∧ Aside0 (kq ≤ k) ∧ Aside0 (Kd.S k77 77 w' w.heap.size (fun _ => True) u198001 x198001_1) ∧ Aside0 (w'.heap[gb195]? = some (.cells #[.string a0_0, (.slice A0_1 l0_1.length c0_1), .string a0_2] 53 (0, 0))) ∧ Aside0 (w'.heap[gb196]? = some (.cells #[.string (⟨#[]⟩ : ByteArray), (.slice none 0 0), .string (⟨#[]⟩ : ByteArray)] 49 (0, 0))) ∧ Aside0 (w'.heap[gb197]? = some (.cells #[.string a0_0, u198001, .string a0_2] 49 (0, 0))) ∧ Aside0 (Below w.heap.size w w'))
 case atStart => exact ⟨(0), (([] : List (S77))), (.slice none 0 0), zS, H', ⟨Nat.le_refl _⟩, ⟨by first | exact Kd.S_nil _ _ _ _ _ | exact Kd.N_nil _ _ _ _ _ | exact Kd.V_nil _ _ _ _ _ | exact Kd.Q_nil _ _ _ _ _ | exact Kd.R_nil _ _ _ _ _⟩, ⟨by (with_reducible repeat (first | refine blk_drewN ?_ _ | refine blk_drew ?_ | refine blk_alloc ?_ _)); refine blk_far ?_ NB195_197.out _; (with_reducible repeat (first | refine blk_drewN ?_ _ | refine blk_drew ?_ | refine blk_alloc ?_ _)); refine blk_far ?_ NB195_197.out _; (with_reducible repeat (first | refine blk_drewN ?_ _ | refine blk_drew ?_ | refine blk_alloc ?_ _)); refine blk_far ?_ NB195_197.out _; (with_reducible repeat (first | refine blk_drewN ?_ _ | refine blk_drew ?_ | refine blk_alloc ?_ _)); exact BK195.out⟩, ⟨by (with_reducible repeat (first | refine blk_drewN ?_ _ | refine blk_drew ?_ | refine blk_alloc ?_ _)); refine blk_far ?_ NB196_197.out _; (with_reducible repeat (first | refine blk_drewN ?_ _ | refine blk_drew ?_ | refine blk_alloc ?_ _)); refine blk_far ?_ NB196_197.out _; (with_reducible repeat (first | refine blk_drewN ?_ _ | refine blk_drew ?_ | refine blk_alloc ?_ _)); refine blk_far ?_ NB196_197.out _; (with_reducible repeat (first | refine blk_drewN ?_ _ | refine blk_drew ?_ | refine blk_alloc ?_ _)); exact BK196.out⟩, ⟨by (with_reducible repeat (first | refine blk_drewN ?_ _ | refine blk_drew ?_ | refine blk_alloc ?_ _)); refine blk_put (cs := #[.string a0_0, .slice none 0 0, .string (⟨#[]⟩ : ByteArray)]) ?_ 2 _ rfl; (with_reducible repeat (first | refine blk_drewN ?_ _ | refine blk_drew ?_ | refine blk_alloc ?_ _)); refine blk_put (cs := #[.string a0_0, .slice none 0 0, .string (⟨#[]⟩ : ByteArray)]) ?_ 1 _ rfl; (with_reducible repeat (first | refine blk_drewN ?_ _ | refine blk_drew ?_ | refine blk_alloc ?_ _)); refine blk_put (cs := #[.string (⟨#[]⟩ : ByteArray), .slice none 0 0, .string (⟨#[]⟩ : ByteArray)]) ?_ 0 _ rfl; (with_reducible repeat (first | refine blk_drewN ?_ _ | refine blk_drew ?_ | refine blk_alloc ?_ _)); exact BK197.out⟩, ⟨zB⟩⟩
 case round =>
  clear H'; clear hcz10_0 hcz10_1 hcz10_2 hcz5_0 hcz5_1 hcz5_2 hcz9_0 hcz9_1 hcz9_2 hfz10_0 hfz10_1 hfz10_2 hfz5_0 hfz5_1 hfz5_2 hfz9_0 hfz9_1 hfz9_2; obtain ⟨x13_1, x198001_1, u198001, rfl, HA, HK1, HO_198001, BK195, BK196, BK197, HB⟩ := hrel
  cases gk with
  | zero => exact absurd HA.out (by simp [trystlaw10_Theirs.l0])
  | succ k1 =>
   have H := HA.out; clear HA; simp only [trystlaw10_Theirs.l0] at H; replace H := zId H; rcases H with ⟨-, c11b0, H⟩ | ⟨-, c11b0, H⟩
   ·replace H := zJJ H; obtain ⟨c12b0, c13b0, H⟩ := H; obtain ⟨y199, hy199⟩ : ∃ y_ : List ByteArray, y_ = (([] : List ByteArray)) := ⟨_, rfl⟩; replace H : (if y199.length + ((rd_T76 l0_1 x13_1).f1).length < 8796093022208 then (if x198001_1.length < 3518437208883 then (trystlaw10_Theirs.l0 k1 (l0_1.length : Int) (wrap64 (x13_1 + 1)) a0_0 l0_1 a0_2 a0_0 (x198001_1 ++ [(⟨(rd_T76 l0_1 x13_1).f0, (y199 ++ ((rd_T76 l0_1 x13_1).f1))⟩ : S77)]) a0_2) else (none)) else (none)) = some (r1, r2, r3) := by first | (rw [hy199]; with_reducible exact H) | (have H2_ := (Option.bind_some _ _).symm.trans H; rw [hy199]; with_reducible exact H2_) | (have H2_ := (Option.bind_some _ _).symm.trans H; with_reducible exact H2_) | with_reducible exact H | (rw [hy199]; exact H) | exact H
    have Ny199 := Aside0.mk hy199; clear hy199; replace H := zJ H; obtain ⟨c14, H⟩ := H; have LMc14 := Aside0.mk c14; clear c14; obtain ⟨y203, hy203⟩ : ∃ y_ : List ByteArray, y_ = (y199 ++ ((rd_T76 l0_1 x13_1).f1)) := ⟨_, rfl⟩; replace H : (if x198001_1.length < 3518437208883 then (trystlaw10_Theirs.l0 k1 (l0_1.length : Int) (wrap64 (x13_1 + 1)) a0_0 l0_1 a0_2 a0_0 (x198001_1 ++ [(⟨(rd_T76 l0_1 x13_1).f0, y203⟩ : S77)]) a0_2) else (none)) = some (r1, r2, r3) := by first | (rw [hy203]; with_reducible exact H) | (have H2_ := (Option.bind_some _ _).symm.trans H; rw [hy203]; with_reducible exact H2_) | (have H2_ := (Option.bind_some _ _).symm.trans H; with_reducible exact H2_) | with_reducible exact H | (rw [hy203]; exact H) | exact H
    have Ny203 := Aside0.mk hy203; clear hy203; replace H := zJ H; obtain ⟨c15, H⟩ := H; have LMc15 := Aside0.mk c15; clear c15; obtain ⟨y206, hy206⟩ : ∃ y_ : List (S77), y_ = (x198001_1 ++ [(⟨(rd_T76 l0_1 x13_1).f0, y203⟩ : S77)]) := ⟨_, rfl⟩; replace H : (trystlaw10_Theirs.l0 k1 (l0_1.length : Int) (wrap64 (x13_1 + 1)) a0_0 l0_1 a0_2 a0_0 y206 a0_2) = some (r1, r2, r3) := by first | (rw [hy206]; with_reducible exact H) | (have H2_ := (Option.bind_some _ _).symm.trans H; rw [hy206]; with_reducible exact H2_) | (have H2_ := (Option.bind_some _ _).symm.trans H; with_reducible exact H2_) | with_reducible exact H | (rw [hy206]; exact H) | exact H
    have Ny206 := Aside0.mk hy206; clear hy206; have H' := Aside0.mk H; clear H
    try go_wp2
    replace HO_198001 := Aside0.mk (Kd.S_drew HO_198001.out); replace BK195 := Aside0.mk (blk_drew BK195.out); replace BK196 := Aside0.mk (blk_drew BK196.out); replace BK197 := Aside0.mk (blk_drew BK197.out); replace HB := Aside0.mk (below_drew1 HB.out); have p198 := zQ (0 ≤ (x13_1 : Int)); have q198 := zQ (x13_1 < (l0_1.length : Int)); obtain ⟨ad198, A198_1, c198_1, e198, hx198_0, hx198_1, hl198_1, hi198_1⟩ := at_T76 HR0_1.out x13_1 p198 q198; have hw198_1 := hx198_1; have hw198_0 := hx198_0
    cases e198
    replace hx198_0 := zx HB hx198_0; replace hx198_1 := zx HB hx198_1; have HR198_1 := Aside0.mk hi198_1; have HC198_1 := Aside0.mk hl198_1; clear hi198_1 hl198_1; replace p198 := eq_true p198; replace q198 := eq_true q198; have p202 := zQ (0 ≤ (x13_1 : Int)); have q202 := zQ (x13_1 < (l0_1.length : Int)); obtain ⟨ad202, A202_1, c202_1, e202, hx202_0, hx202_1, hl202_1, hi202_1⟩ := at_T76 HR0_1.out x13_1 p202 q202; have hw202_1 := hx202_1; have hw202_0 := hx202_0; obtain rfl : ad198 = ad202 := (by injection e202); replace hx202_0 := zx HB hx202_0; replace hx202_1 := zx HB hx202_1; have HR202_1 := Aside0.mk hi202_1; have HC202_1 := Aside0.mk hl202_1; clear hi202_1 hl202_1
    replace p202 := eq_true p202; replace q202 := eq_true q202; have ea_ := Option.some.inj (hx198_1.symm.trans hx202_1)
    injection ea_ with ea_ en_ ec_
    subst ea_; subst ec_; clear en_
    refine start_ (n := 21) (S := fun w' => w'.cell? ⟨gb197, 0, none⟩ = some (.string a0_0) ∧ w'.cell? ⟨gb197, 1, none⟩ = some (u198001) ∧ w'.cell? ⟨gb197, 2, none⟩ = some (.string a0_2) ∧ w'.cell? ⟨gb195, 0, none⟩ = some (.string a0_0) ∧ w'.cell? ⟨gb195, 1, none⟩ = some (.slice (some ad198) l0_1.length c0_1) ∧ w'.cell? ⟨gb195, 2, none⟩ = some (.string a0_2) ∧ w'.cell? (ad198.add ((x13_1).toNat * 2)) = some (.string ((rd_T76 l0_1 x13_1).f0)) ∧ w'.cell? ⟨(ad198.add ((x13_1).toNat * 2)).block, (ad198.add ((x13_1).toNat * 2)).off + 1, none⟩ = some (.slice A198_1 ((rd_T76 l0_1 x13_1).f1).length c198_1) ∧ w'.cell? (ad198.add ((x13_1).toNat * 2)) = some (.string ((rd_T76 l0_1 x13_1).f0)) ∧ w'.cell? ⟨(ad198.add ((x13_1).toNat * 2)).block, (ad198.add ((x13_1).toNat * 2)).off + 1, none⟩ = some (.slice A198_1 ((rd_T76 l0_1 x13_1).f1).length c198_1)) (ds := [20]) (bs 21 0) (by kernel_rfl) rfl rfl ⟨(blk_cell BK197.out 0).trans rfl, (blk_cell BK197.out 1).trans rfl, (blk_cell BK197.out 2).trans rfl, (blk_cell BK195.out 0).trans rfl, (blk_cell BK195.out 1).trans rfl, (blk_cell BK195.out 2).trans rfl, (zx HB hw198_0), (zx HB hw198_1), (zx HB hw202_0), (zx HB hw202_1)⟩ (fun hHeld => ?_); refine with_tabW trystlaw10_Theirs.tab5 trystlaw10_Theirs.bits5 (fun HT_ HW_ => ?_)
    generalize wr.drew = w16 at HO_198001 BK195 BK196 BK197 HB HR198_1 HR202_1 hx198_0 hx198_1 hx202_0 hx202_1 hHeld ⊢; refine zp 0 16 (bs 21 1) ?_; refine zp 2 18 (bs 21 5) ?_; refine zp 4 20 (bs 21 21) ?_; refine zp 9 25 (bs 21 533) ?_; refine zp 11 27 (bs 21 2581) ?_; refine zt 1 17 (bs 21 2583) ?_; refine zt 3 19 (bs 21 2591) ?_; refine zp 5 21 (bs 21 2623) ?_; refine zp 6 22 (bs 21 2687) ?_; refine zt 7 23 (bs 21 2815) ?_; refine zt 10 26 (bs 21 3839) ?_; refine zp 12 28 (bs 21 7935) ?_; refine zp 13 29 (bs 21 16127) ?_; refine zt 14 30 (bs 21 32511) ?_; refine one_ (i := 8) (N := some 24) (bs 21 32767) rfl rfl (one_of HT_.out (by kernel_rfl)) (by decide) (fun K hK => ?_)
    refine Kd.R_lit_step Kd.string _ 9 ?hg (N := 24) ?hd (xs := ([] : List ByteArray)) (inner := []) (ok := fun _ => True) (okp := fun _ => True) ?hr ?hp (fun _ hk => hk) trivial (Below.refl _ _) (Nat.le_refl _) (by simp) ?_; (case hd => rfl); (case hg => rfl); (case hr => first | (go_simp; done) | (go_simp; rfl)); (case hp => exact (Reps.none _ _)); intro v200 w17 ho18 hb hg_ hnew_; clear hg_ hnew_
    (first | rw [← Ny199.out] at ho18 | (simp only [Int.reduceToNat] at ho18; rw [← Ny199.out] at ho18))
    replace HO_198001 := Aside0.mk (Kd.S_elder' (Kd.S_below HO_198001.out zX) (Kd.R_base ho18) hb); replace HO201 := Aside0.mk (Kd.R_lower ho18 (below_size zB)); replace BK195 := zb BK195 hb; replace BK196 := zb BK196 hb; replace BK197 := zb BK197 hb; replace HB := zw hb; clear hb ho18
    refine hK.out _ _ ⟨(blk_cell BK197.out 0).trans rfl, (blk_cell BK197.out 1).trans rfl, (blk_cell BK197.out 2).trans rfl, (blk_cell BK195.out 0).trans rfl, (blk_cell BK195.out 1).trans rfl, (blk_cell BK195.out 2).trans rfl, (zx HB hw198_0), (zx HB hw198_1), (zx HB hw202_0), (zx HB hw202_1)⟩ (fun hHeld => ?_); clear hK K; refine zr ?_; refine one_ (i := 15) (N := some 31) (bs 21 65535) rfl rfl (one_of HT_.out (by kernel_rfl)) (by decide) (fun K hK => ?_)
    refine Kd.R_append_rows_step Kd.string (w0 := w) w.heap.size (by rfl) (.tmp 24) (.tmp 30) 54 9 (.string ⟨#[]⟩) 16 rfl Tryz.underlying54 info9 rfl (by decide) (by omega) v200 y199 ((rd_T76 l0_1 x13_1).f1) _ _ _ (fun _ => True) (fun _ => False) rfl rfl ?aO ?aR (fun _ _ h => h) (fun _ h => h.elim) ?aF ?aB ?aS ?aL ?_
    (case aR => repeat (first | exact (Kd.C_below HR202_1.out HB.out) | (with_reducible refine Kd.C_alloc ?_ _) | (with_reducible refine Kd.C_drewN ?_ _) | (with_reducible refine Kd.C_drew ?_)))
    (case aB => exact zB)
    (case aF => exact (fun _ _ => trivial))
    (case aO => exact (Kd.R_below HO201.out zX))
    (case aS => exact (below_size zB))
    (case aL => have := LMc14.out; omega)
    intro v204 w19 ho hb hg hat; rw [← Ny203.out] at ho; have n0_ := Aside0.mk (Kd.S_after (ok := (fun _ => True)) (Kd.S_below HO_198001.out zX) hg hat); have n1_ := Aside0.mk (blk_grown (g := gb195) (o := .cells #[.string a0_0, .slice (some ad198) l0_1.length c0_1, .string a0_2] 53 (0, 0)) (blk_below BK195.out zX) hg (Kd.R_ne HO201.out BK195.out (by decide))); have n2_ := Aside0.mk (blk_grown (g := gb196) (o := .cells #[.string (⟨#[]⟩ : ByteArray), .slice none 0 0, .string (⟨#[]⟩ : ByteArray)] 49 (0, 0)) (blk_below BK196.out zX) hg (Kd.R_ne HO201.out BK196.out (by decide))); have n3_ := Aside0.mk (blk_grown (g := gb197) (o := .cells #[.string a0_0, u198001, .string a0_2] 49 (0, 0)) (blk_below BK197.out zX) hg (Kd.R_ne HO201.out BK197.out (by decide))); have n4_ := Aside0.mk (hb); have n5_ := Aside0.mk (ho); clear HO_198001; clear BK195; clear BK196; clear BK197; clear HB; clear HO201
    have HO_198001 := n0_; have BK195 := n1_; have BK196 := n2_; have BK197 := n3_; have HB := n4_; have HO205 := n5_; clear n0_ n1_ n2_ n3_ n4_ n5_; clear ho hb hg hat; obtain ⟨Ao20, co20, eo20⟩ := Kd.R_slice HO205.out
    (first | subst eo20 | (injection eo20 with f1_ f2_ f3_; have f4_ := f1_.symm; have f5_ := f3_.symm; clear f1_ f2_ f3_; subst f4_; subst f5_))
    refine hK.out _ _ ⟨(blk_cell BK197.out 0).trans rfl, (blk_cell BK197.out 1).trans rfl, (blk_cell BK197.out 2).trans rfl, (blk_cell BK195.out 0).trans rfl, (blk_cell BK195.out 1).trans rfl, (blk_cell BK195.out 2).trans rfl, (zx HB hw198_0), (zx HB hw198_1), (zx HB hw202_0), (zx HB hw202_1)⟩ (fun hHeld => ?_); clear hK K; refine zr ?_; refine zp 16 32 (bs 21 131071) ?_; refine one_ (i := 17) (N := some 33) (bs 21 262143) rfl rfl (one_of HT_.out (by kernel_rfl)) (by decide) (fun K hK => ?_); refine value_ (w1 := ?_) (v := ?_) (by rfl) rfl ?_ ?_; rotate_left 2
    ·go_simp
     constructor
     ·rfl
     ·rfl
    refine hK.out _ _ ⟨(blk_cell (blk_alloc BK197.out _) 0).trans rfl, (blk_cell (blk_alloc BK197.out _) 1).trans rfl, (blk_cell (blk_alloc BK197.out _) 2).trans rfl, (blk_cell (blk_alloc BK195.out _) 0).trans rfl, (blk_cell (blk_alloc BK195.out _) 1).trans rfl, (blk_cell (blk_alloc BK195.out _) 2).trans rfl, (World.cell?_alloc_lt _ _ _ (World.block_lt_of_cell? _ _ ((zx HB hw198_0)))).trans ((zx HB hw198_0)), (World.cell?_alloc_lt _ _ _ (World.block_lt_of_cell? _ _ ((zx HB hw198_1)))).trans ((zx HB hw198_1)), (World.cell?_alloc_lt _ _ _ (World.block_lt_of_cell? _ _ ((zx HB hw202_0)))).trans ((zx HB hw202_0)), (World.cell?_alloc_lt _ _ _ (World.block_lt_of_cell? _ _ ((zx HB hw202_1)))).trans ((zx HB hw202_1))⟩ (fun hHeld => ?_)
    clear hK K; refine zr ?_; refine one_ (i := 18) (N := some 34) (bs 21 524287) rfl rfl (one_of HT_.out (by kernel_rfl)) (by decide) (fun K hK => ?_); refine Kd.S_append_step k77 (w0 := w) w.heap.size (by rfl) (.tmp 17) (.tmp 33) 47 77 (.agg #[(.string ⟨#[]⟩), (.slice none 0 0)]) 40 rfl Tryz.underlying47 info77 rfl (by decide) (by omega) u198001 x198001_1 (⟨(rd_T76 l0_1 x13_1).f0, y203⟩ : S77) [.string ((rd_T76 l0_1 x13_1).f0), .slice Ao20 y203.length co20] (fun _ => True) (fun k_ => some k_ = (.slice Ao20 y203.length co20 : Value).ownBlock) rfl rfl ?aP (fun k_ hk_ => ((Kd.R_mono (ok' := fun k_ => ((fun _ => True)) k_ ∧ some k_ ≠ (u198001 : Value).ownBlock) (Kd.R_apart' (HO205.out) (Kd.S_typed HO_198001.out) (by decide)) (fun k_ hk => ⟨trivial, hk.2⟩))).1 k_ hk_.symm) ?aF ?aO ?aB ?aS ?aL ?_
    (case aP => exact k77_mkM _ _ _ (⟨(rd_T76 l0_1 x13_1).f0, y203⟩ : S77) (Kd.R_mono (Kd.R_tight rfl (Kd.R_mono (ok' := fun k_ => ((fun _ => True)) k_ ∧ some k_ ≠ (u198001 : Value).ownBlock) (Kd.R_apart' (HO205.out) (Kd.S_typed HO_198001.out) (by decide)) (fun k_ hk => ⟨trivial, hk.2⟩))) (fun _ h_ => h_)))
    (case aB => exact zB)
    (case aF => exact (fun _ _ => trivial))
    (case aO => exact (by (with_reducible repeat (first | apply Kd.S_alloc | apply Kd.S_drewN | apply Kd.S_drew)); exact Kd.S_mono HO_198001.out (fun k_ hk => ⟨trivial, fun e_ => hk.2 e_⟩)))
    (case aS => exact (below_size zB))
    (case aL => have := LMc15.out; omega)
    intro v207 w21 ho hb hg hat; rw [← Ny206.out] at ho; have n0_ := Aside0.mk (blk_grown (g := gb195) (o := .cells #[.string a0_0, .slice (some ad198) l0_1.length c0_1, .string a0_2] 53 (0, 0)) (blk_below BK195.out zX) hg (Kd.S_ne HO_198001.out BK195.out (by decide))); have n1_ := Aside0.mk (blk_grown (g := gb196) (o := .cells #[.string (⟨#[]⟩ : ByteArray), .slice none 0 0, .string (⟨#[]⟩ : ByteArray)] 49 (0, 0)) (blk_below BK196.out zX) hg (Kd.S_ne HO_198001.out BK196.out (by decide))); have n2_ := Aside0.mk (blk_grown (g := gb197) (o := .cells #[.string a0_0, u198001, .string a0_2] 49 (0, 0)) (blk_below BK197.out zX) hg (Kd.S_ne HO_198001.out BK197.out (by decide))); have n3_ := Aside0.mk (hb); have n4_ := Aside0.mk (ho); clear BK195; clear BK196; clear BK197; clear HB; clear HO_198001; clear HO205; have BK195 := n0_; have BK196 := n1_; have BK197 := n2_; have HB := n3_
    have HO208 := n4_; clear n0_ n1_ n2_ n3_ n4_; clear ho hb hg hat; obtain ⟨Ao22, co22, eo22⟩ := Kd.S_slice HO208.out
    (first | subst eo22 | (injection eo22 with f1_ f2_ f3_; have f4_ := f1_.symm; have f5_ := f3_.symm; clear f1_ f2_ f3_; subst f4_; subst f5_))
    refine hK.out _ _ ⟨(blk_cell BK197.out 0).trans rfl, (blk_cell BK197.out 1).trans rfl, (blk_cell BK197.out 2).trans rfl, (blk_cell BK195.out 0).trans rfl, (blk_cell BK195.out 1).trans rfl, (blk_cell BK195.out 2).trans rfl, (zx HB hw198_0), (zx HB hw198_1), (zx HB hw202_0), (zx HB hw202_1)⟩ (fun hHeld => ?_); clear hK K; refine zr ?_; refine zp 19 35 (bs 21 1048575) ?_; refine last_ (i := 20) (N := none) (bs 21 2097151) rfl rfl (one_of HT_.out (by kernel_rfl)) (by decide) (fun K hK => ?_); have hs23 : w21.cell? ⟨gb197, 1, none⟩ = some (u198001) := (blk_cell BK197.out 1).trans rfl; have hfs23 := zf BK197 1; have hns23_0 := NB195_197.out; have hns23_1 := NB196_197.out
    have hms23_0 := NB197_195.out; have hms23_1 := NB197_196.out; refine skip_ (w1 := ?_) (by rfl) rfl ?_ ?_; rotate_left
    ·go_simp; rfl
    refine hK.out _ _ ?_; clear hK K; refine done_ (done_of HT_.out (by kernel_rfl)) ?_
    try go_wp2
    go_roundg k1
    case measure => have := HK1.out; omega
    case rel => exact ⟨(wrap64 (x13_1 + 1)), (y206), (.slice Ao22 y206.length co22), zS, H', ⟨by have := HK1.out; omega⟩, ⟨by (with_reducible repeat (first | apply Kd.S_alloc | apply Kd.S_drewN | apply Kd.S_drew)); exact Kd.S_mono (Kd.S_far (p := ⟨gb197, 1, none⟩) (Kd.S_types HO208.out BK197.out (by decide)) (fun _ hk => hk.2) (.slice Ao22 y206.length co22)) (fun _ hk => trivial)⟩, ⟨by (with_reducible repeat (first | refine blk_drewN ?_ _ | refine blk_drew ?_ | refine blk_alloc ?_ _)); refine blk_far ?_ NB195_197.out _; (with_reducible repeat (first | refine blk_drewN ?_ _ | refine blk_drew ?_ | refine blk_alloc ?_ _)); exact BK195.out⟩, ⟨by (with_reducible repeat (first | refine blk_drewN ?_ _ | refine blk_drew ?_ | refine blk_alloc ?_ _)); refine blk_far ?_ NB196_197.out _; (with_reducible repeat (first | refine blk_drewN ?_ _ | refine blk_drew ?_ | refine blk_alloc ?_ _)); exact BK196.out⟩, ⟨by (with_reducible repeat (first | refine blk_drewN ?_ _ | refine blk_drew ?_ | refine blk_alloc ?_ _)); refine blk_put (cs := #[.string a0_0, u198001, .string a0_2]) ?_ 1 _ rfl; (with_reducible repeat (first | refine blk_drewN ?_ _ | refine blk_drew ?_ | refine blk_alloc ?_ _)); exact BK197.out⟩, ⟨zB⟩⟩
   ·simp only [Option.some.injEq, Prod.mk.injEq] at H; obtain ⟨rfl, rfl, rfl⟩ := H; have hnb24 := NB197_195.out; have hnc24 := NB195_197.out; have hnb25 := NB197_196.out; have hnc25 := NB196_197.out; obtain ⟨hcz26_0, hcz26_1, hcz26_2, hfz26_0, hfz26_1, hfz26_2⟩ := zk3 BK197; have hnb27 := NB196_195.out; have hnc27 := NB195_196.out; have hcz28_0 := zc0 BK196; have hcz28_1 := zc1 BK196
    have hcz28_2 := zc2 BK196; have hfz28_0 := zf BK196 0; have hfz28_1 := zf BK196 1; have hfz28_2 := zf BK196 2; obtain ⟨Ao29, co29, eo29⟩ := Kd.S_slice HO_198001.out; subst eo29; go_wp2
    refine bodyPost_ret (results_cell_row rfl _ _ gb196 49 #[.string a0_0, .slice Ao29 x198001_1.length co29, .string a0_2] (0, 0) _ rfl (by (with_reducible repeat (first | refine blk_drewN ?_ _ | refine blk_drew ?_ | refine blk_alloc ?_ _)); refine blk_put (cs := #[.string a0_0, .slice Ao29 x198001_1.length co29, .string (⟨#[]⟩ : ByteArray)]) ?_ 2 _ rfl; (with_reducible repeat (first | refine blk_drewN ?_ _ | refine blk_drew ?_ | refine blk_alloc ?_ _)); refine blk_put (cs := #[.string a0_0, .slice none 0 0, .string (⟨#[]⟩ : ByteArray)]) ?_ 1 _ rfl; (with_reducible repeat (first | refine blk_drewN ?_ _ | refine blk_drew ?_ | refine blk_alloc ?_ _)); refine blk_put (cs := #[.string (⟨#[]⟩ : ByteArray), .slice none 0 0, .string (⟨#[]⟩ : ByteArray)]) ?_ 0 _ rfl; (with_reducible repeat (first | refine blk_drewN ?_ _ | refine blk_drew ?_ | refine blk_alloc ?_ _)); exact BK196.out) Tryz.underlying49 rfl (by kernel_rfl)) rfl ?_
    exact ⟨_, zE, by (with_reducible repeat (first | apply Kd.S_alloc | apply Kd.S_drewN | apply Kd.S_drew)); exact Kd.S_mono (Kd.S_far (p := ⟨gb196, 2, none⟩) (Kd.S_far (p := ⟨gb196, 1, none⟩) (Kd.S_far (p := ⟨gb196, 0, none⟩) (Kd.S_types HO_198001.out BK196.out (by decide)) (fun _ hk => hk.2) (.string a0_0)) (fun _ hk => hk.2) (.slice Ao29 x198001_1.length co29)) (fun _ hk => hk.2) (.string a0_2)) (fun _ hk => trivial), zB⟩
end Go.Proofs.YtdojmdbaiddkgaaGreatDoor.Print
end
section
set_option linter.unusedVariables false
set_option linter.unusedSimpArgs false
set_option linter.unusedSectionVars false
namespace Go.Proofs.YtdojmdbaiddkgaaGreatDoor.Pure
open Go.RowKit Go.Proofs.YtdojmdbaiddkgaaGreatDoor.Print Go.Proofs.YtdojmdbaiddkgaaGreatDoorW.PrintWords Go.Proofs.YtdojmdbaiddkgaaGreatDoorW.PrintLast Go.Proofs.YtdojmdbaiddkgaaGreatDoorW.PrintMore
abbrev RP := S76
abbrev LP := S77
def toP (x : RP) : LP := ⟨x.f0, x.f1⟩
theorem wrapS (i n : Nat) (h : i < n) (hn : n ≤ 9000000000000000000) : wrap64 ((i : Int) + 1) = ((i + 1 : Nat) : Int) := by unfold wrap64; omega
theorem rdR (l : List RP) (i : Nat) (h : i < l.length) : rd_T76 l (i : Int) = l[i] := by
  unfold rd_T76
  rw [Int.toNat_natCast, List.getD_eq_getElem?_getD, List.getElem?_eq_getElem h]; rfl
theorem few1_ev (nm v : ByteArray) (l : List RP) (i : Nat) (hi : i < l.length) (hl : l.length ≤ 9000000000000000000) (hv : l[i].f1.length ≤ 9000000000000000000)
    (next : ∀ x3 : Int, ∃ b, Ev (fun k => trystlaw10_Few.l0 k x3 (l.length : Int) ((i + 1 : Nat) : Int) nm l v) b) :
    ∀ (d j : Nat) (x3 : Int), j + d = l[i].f1.length → ∃ b, Ev (fun k => trystlaw10_Few.l1 k x3 (i : Int) (l.length : Int) (i : Int) (l[i].f1.length : Int) (j : Int) nm l v) b := by
  intro d
  induction d with
  | zero =>
    intro j x3 hj
    by_cases h5 : x3 > 5000
    · exact ⟨false, Ev.step (f := fun _ => some false) (fun k => by simp only [trystlaw10_Few.l1]; rw [if_neg (by omega), if_pos h5]) (Ev.now _)⟩
    · obtain ⟨b, hb⟩ := next x3
      exact ⟨b, Ev.step (fun k => by simp only [trystlaw10_Few.l1]; rw [if_neg (by omega), if_neg h5, wrapS i _ hi hl]) hb⟩
  | succ d ih =>
    intro j x3 hj
    obtain ⟨b, hb⟩ := ih (j + 1) (wrap64 ((wrap64 (x3 + ((rdOf ByteArray.empty (l[i].f1) (j : Int)).size : Int))) + 1)) (by omega)
    exact ⟨b, Ev.step (fun k => by simp only [trystlaw10_Few.l1]; rw [if_pos (by omega), if_pos (by omega), if_pos (by omega), if_pos (by omega), rdR l i hi, if_pos (by omega), wrapS j _ (by omega) hv]) hb⟩
theorem few_ev (nm v : ByteArray) (l : List RP) (hl : l.length ≤ 9000000000000000000) (hv : ∀ x ∈ l, x.f1.length ≤ 9000000000000000000) :
    ∀ (d i : Nat) (x3 : Int), i + d = l.length → ∃ b, Ev (fun k => trystlaw10_Few.l0 k x3 (l.length : Int) (i : Int) nm l v) b := by
  intro d
  induction d with
  | zero =>
    intro i x3 hi
    exact ⟨_, Ev.step (f := fun _ => some (decide (x3 ≤ 5000))) (fun k => by simp only [trystlaw10_Few.l0]; rw [if_neg (by omega)]) (Ev.now _)⟩
  | succ d ih =>
    intro i x3 hi
    have hil : i < l.length := by omega
    obtain ⟨b, hb⟩ := few1_ev nm v l i hil hl (hv _ (List.getElem_mem hil)) (fun x => ih (i + 1) x (by omega)) l[i].f1.length 0 (wrap64 ((wrap64 (x3 + (l[i].f0.size : Int))) + 1)) (by omega)
    exact ⟨b, Ev.step (fun k => by simp only [trystlaw10_Few.l0]; rw [if_pos (by omega), if_pos (by omega), if_pos (by omega), rdR l i hil]; rfl) hb⟩
theorem theirs_ev (nm v : ByteArray) (l : List RP) (hl : l.length < 3518437208883) (hv : ∀ x ∈ l, x.f1.length < 8796093022208) :
    ∀ (d i : Nat) (acc : List LP), i + d = l.length → acc.length = i → Ev (fun k => trystlaw10_Theirs.l0 k (l.length : Int) (i : Int) nm l v nm acc v) (nm, acc ++ (l.drop i).map toP, v) := by
  intro d
  induction d with
  | zero =>
    intro i acc hi ha
    rw [List.drop_eq_nil_of_le (by omega), List.map_nil, List.append_nil]
    exact Ev.step (f := fun _ => some (nm, acc, v)) (fun k => by simp only [trystlaw10_Theirs.l0]; rw [if_neg (by omega)]) (Ev.now _)
  | succ d ih =>
    intro i acc hi ha
    have hil : i < l.length := by omega
    have h1 := hv _ (List.getElem_mem hil)
    have := ih (i + 1) (acc ++ [toP l[i]]) (by omega) (by simp [ha])
    rw [List.drop_eq_getElem_cons hil, List.map_cons, List.append_cons]
    refine Ev.step (fun k => ?_) this
    simp only [trystlaw10_Theirs.l0]
    rw [if_pos (by omega), if_pos (by omega), if_pos (by omega), Option.bind_some, rdR l i hil, if_pos (by simpa using h1), if_pos (by omega), wrapS i _ hil (by omega), List.nil_append]
    rfl
theorem theirs (nm v : ByteArray) (l : List RP) (hl : l.length < 3518437208883) (hv : ∀ x ∈ l, x.f1.length < 8796093022208) : Ev (fun k => trystlaw10_Theirs.f k nm l v) (nm, l.map toP, v) := by
  have := theirs_ev nm v l hl hv l.length 0 [] (by omega) rfl
  rw [List.nil_append, List.drop_zero] at this
  exact this
theorem toList_ba {a b : ByteArray} : a.toList = b.toList ↔ a = b := ⟨ba_toList, fun h => by rw [h]⟩
theorem rdS (l : List ByteArray) (i : Nat) (h : i < l.length) : rdOf ByteArray.empty l (i : Int) = l[i] := by
  unfold rdOf
  rw [Int.toNat_natCast, List.getD_eq_getElem?_getD, List.getElem?_eq_getElem h]; rfl
theorem same08_ev (x y : List ByteArray) (hxy : x.length = y.length) (hl : x.length ≤ 9000000000000000000) :
    ∀ (d i : Nat), i + d = x.length → Ev (fun k => trystlaw08_Same.l0 k x y (x.length : Int) (i : Int)) (decide (x.drop i = y.drop i)) := by
  intro d
  induction d with
  | zero =>
    intro i hi
    rw [List.drop_eq_nil_of_le (by omega), List.drop_eq_nil_of_le (by omega)]
    exact Ev.step (f := fun _ => some true) (fun k => by simp only [trystlaw08_Same.l0]; rw [if_neg (by omega)]) (Ev.now _)
  | succ d ih =>
    intro i hi
    have hx : i < x.length := by omega
    have hy : i < y.length := by omega
    rw [List.drop_eq_getElem_cons hx, List.drop_eq_getElem_cons hy]
    by_cases h : x[i] = y[i]
    · have e : decide (x[i] :: x.drop (i + 1) = y[i] :: y.drop (i + 1)) = decide (x.drop (i + 1) = y.drop (i + 1)) := decide_eq_decide.2 ⟨fun he => (List.cons.inj he).2, fun he => by rw [h, he]⟩
      rw [e]
      exact Ev.step (fun k => by simp only [trystlaw08_Same.l0]; rw [if_pos (by omega), if_pos (by omega), if_pos (by omega), if_pos (by omega), rdS x i hx, rdS y i hy, if_pos (by rw [h]), wrapS i _ hx hl]) (ih (i + 1) (by omega))
    · have e : decide (x[i] :: x.drop (i + 1) = y[i] :: y.drop (i + 1)) = false := decide_eq_false (fun he => h (List.cons.inj he).1)
      rw [e]
      exact Ev.step (f := fun _ => some false) (fun k => by simp only [trystlaw08_Same.l0]; rw [if_pos (by omega), if_pos (by omega), if_pos (by omega), if_pos (by omega), rdS x i hx, rdS y i hy, if_neg (fun he => h (toList_ba.1 he))]) (Ev.now _)
theorem same08 (x y : List ByteArray) (hl : x.length ≤ 9000000000000000000) : Ev (fun k => trystlaw08_Same.f k x y) (decide (x = y)) := by
  by_cases h : x.length = y.length
  · have := same08_ev x y h hl x.length 0 (by omega)
    rw [List.drop_zero, List.drop_zero] at this
    exact Ev.congr (fun k => by unfold trystlaw08_Same.f; rw [if_pos (by omega)]; rfl) this
  · rw [decide_eq_false (fun e => h (by rw [e]))]
    exact Ev.congr (fun k => by unfold trystlaw08_Same.f; rw [if_neg (by omega)]) (Ev.now _)
theorem eqPs_drop (x y : List RP) (i : Nat) (hx : i < x.length) (hy : i < y.length) : eqPs ((x.drop i).map toP) ((y.drop i).map toP) = (decide (x[i].f0 = y[i].f0) && decide (x[i].f1 = y[i].f1) && eqPs ((x.drop (i + 1)).map toP) ((y.drop (i + 1)).map toP)) := by
  rw [List.drop_eq_getElem_cons hx, List.drop_eq_getElem_cons hy, List.map_cons, List.map_cons]
  rfl
theorem same10_ev (a v b u : ByteArray) (x y : List RP) (hxy : x.length = y.length) (hl : x.length ≤ 9000000000000000000) (hv : ∀ p ∈ x, p.f1.length ≤ 9000000000000000000) :
    ∀ (d i : Nat), i + d = x.length → Ev (fun k => trystlaw10_Same.l0 k (x.length : Int) (i : Int) a x v b y u) (eqPs ((x.drop i).map toP) ((y.drop i).map toP)) := by
  intro d
  induction d with
  | zero =>
    intro i hi
    rw [List.drop_eq_nil_of_le (by omega), List.drop_eq_nil_of_le (by omega)]
    exact Ev.step (f := fun _ => some true) (fun k => by simp only [trystlaw10_Same.l0]; rw [if_neg (by omega)]) (Ev.now _)
  | succ d ih =>
    intro i hi
    have hx : i < x.length := by omega
    have hy : i < y.length := by omega
    rw [eqPs_drop x y i hx hy]
    by_cases h : x[i].f0 = y[i].f0
    · rw [decide_eq_true h, Bool.true_and]
      refine Ev.step (f := fun k => (trystlaw08_Same.f k x[i].f1 y[i].f1).bind fun t => if t = true then trystlaw10_Same.l0 k (x.length : Int) ((i + 1 : Nat) : Int) a x v b y u else some false) (fun k => by simp only [trystlaw10_Same.l0]; rw [if_pos (by omega), if_pos (by omega), if_pos (by omega), if_pos (by omega), rdR x i hx, rdR y i hy, if_pos (by rw [h]), wrapS i _ hx hl]) ?_
      refine Ev.bind (same08 _ _ (hv _ (List.getElem_mem hx))) ?_
      by_cases h2 : x[i].f1 = y[i].f1
      · rw [decide_eq_true h2]; exact ih (i + 1) (by omega)
      · rw [decide_eq_false h2]; exact Ev.now _
    · rw [decide_eq_false h, Bool.false_and]
      exact Ev.step (f := fun _ => some false) (fun k => by simp only [trystlaw10_Same.l0]; rw [if_pos (by omega), if_pos (by omega), if_pos (by omega), if_pos (by omega), rdR x i hx, rdR y i hy, if_neg (fun he => h (toList_ba.1 he))]) (Ev.now _)
theorem same10 (a v b u : ByteArray) (x y : List RP) (hl : x.length ≤ 9000000000000000000) (hv : ∀ p ∈ x, p.f1.length ≤ 9000000000000000000) : Ev (fun k => trystlaw10_Same.f k a x v b y u) (eqL a (x.map toP) v b (y.map toP) u) := by
  unfold eqL
  have hno : Ev (fun k : Nat => trystlaw10_Same.j0 k true a x v b y u) false := Ev.step (f := fun _ => some false) (fun k => by simp only [trystlaw10_Same.j0]; rfl) (Ev.now _)
  by_cases h1 : a = b
  · by_cases h2 : v = u
    · rw [decide_eq_true h1, decide_eq_true h2, Bool.true_and, Bool.true_and]
      refine Ev.congr (f := fun k => trystlaw10_Same.j0 k ((x.length : Int) != (y.length : Int)) a x v b y u) (fun k => by unfold trystlaw10_Same.f; rw [if_pos (by rw [h1]), if_pos (by rw [h2])]) ?_
      by_cases h3 : x.length = y.length
      · have e : ((x.length : Int) != (y.length : Int)) = false := by simp [h3]
        rw [e]
        have := same10_ev a v b u x y h3 hl hv x.length 0 (by omega)
        rw [List.drop_zero, List.drop_zero] at this
        exact Ev.step (fun k => by simp only [trystlaw10_Same.j0]; rfl) this
      · have e : ((x.length : Int) != (y.length : Int)) = true := by simp; omega
        rw [e, eqPs_len _ _ (by simpa using h3)]
        exact hno
    · rw [decide_eq_false h2, Bool.and_false, Bool.false_and]
      exact Ev.congr (fun k => by unfold trystlaw10_Same.f; rw [if_pos (by rw [h1]), if_neg (fun e => h2 (toList_ba.1 e))]) hno
  · rw [decide_eq_false h1, Bool.false_and, Bool.false_and]
    exact Ev.congr (fun k => by unfold trystlaw10_Same.f; rw [if_neg (fun e => h1 (toList_ba.1 e))]) hno
theorem eqPs_self : ∀ l : List LP, eqPs l l = true
  | [] => rfl
  | p :: t => by unfold eqPs eqP; simp [eqPs_self t]
end Go.Proofs.YtdojmdbaiddkgaaGreatDoor.Pure
end
section
namespace Go.Proofs.YtdojmdbaiddkgaaGreatDoor.Print
open Go.RowKit Go.Proofs.YtdojmdbaiddkgaaGreatDoorW.PrintWords Go.Proofs.YtdojmdbaiddkgaaGreatDoorW.PrintLast Go.Proofs.YtdojmdbaiddkgaaGreatDoorW.PrintMore
set_option linter.unusedVariables false
set_option linter.unusedSimpArgs false
mutual
def trystlaw11_Theirs.l0 : Nat → Int → Int → ByteArray → List (S53) → List (S25) → ByteArray → List (S49) → Option (ByteArray × (List (S49)) × (List (S31)))
 | 0, _, _, _, _, _, _, _ => none
 | k + 1, x11, x12, x210000, x210001, x210002, x212000, x212001 => if x12 < x11 then (if 0 ≤ x12 then (if x12 < (x210001.length : Int) then ((trystlaw10_Theirs.f k ((rd_T53 x210001 x12).f0) ((rd_T53 x210001 x12).f1) ((rd_T53 x210001 x12).f2)).bind fun bt213 => (if x212001.length < 2513169434916 then (trystlaw11_Theirs.l0 k x11 (wrap64 (x12 + 1)) x210000 x210001 x210002 x212000 (x212001 ++ [(⟨bt213.1, bt213.2.1, bt213.2.2⟩ : S49)])) else (none))) else (none)) else (none)) else (trystlaw11_Theirs.l1 k (x210002.length : Int) 0 x210000 x210001 x210002 x212000 x212001 ([] : List (S31)))
def trystlaw11_Theirs.l1 : Nat → Int → Int → ByteArray → List (S53) → List (S25) → ByteArray → List (S49) → List (S31) → Option (ByteArray × (List (S49)) × (List (S31)))
 | 0, _, _, _, _, _, _, _, _ => none
 | k + 1, x29, x30, x210000, x210001, x210002, x212000, x212001, x212002 => if x30 < x29 then (if 0 ≤ x30 then (if x30 < (x210002.length : Int) then ((trystlaw11_Theirs.f k ((rd_T25 x210002 x30).f0) ((rd_T25 x210002 x30).f1) ((rd_T25 x210002 x30).f2)).bind fun bt222 => (if x212002.length < 2199023255552 then (trystlaw11_Theirs.l1 k x29 (wrap64 (x30 + 1)) x210000 x210001 x210002 x212000 x212001 (x212002 ++ [(⟨bt222.1, bt222.2.1, bt222.2.2⟩ : S31)])) else (none))) else (none)) else (none)) else (some (x212000, x212001, x212002))
def trystlaw11_Theirs.f : Nat → ByteArray → List (S53) → List (S25) → Option (ByteArray × (List (S49)) × (List (S31)))
 | 0, _, _, _ => none
 | k + 1, a0_0, l0_1, l0_2 => trystlaw11_Theirs.l0 k (l0_1.length : Int) 0 a0_0 l0_1 l0_2 a0_0 ([] : List (S49))
end
def trystlaw11_Theirs.T5 : Bool × List (List Nat × List Nat) := (true, [([], []), ([0], [0]), ([], []), ([2], [2]), ([], []), ([3, 4], [3, 4]), ([5], [5]), ([6], [6]), ([7], [7]), ([1, 8, 7], [1, 8]), ([0, 1, 2, 3, 4, 5, 6, 7, 8, 9], []), ([10, 9, 9, 0, 1, 2, 3, 4, 5, 6, 7, 8, 9], [9, 10])])
def trystlaw11_Theirs.B5 : List Nat := [0, 1, 0, 4, 0, 28, 60, 124, 252, 511, 1023, 2047]
theorem trystlaw11_Theirs.tab5 : rtab .any (opsOf Tryz.f8 5) = trystlaw11_Theirs.T5 := by kernel_rfl
theorem trystlaw11_Theirs.bits5 : waitsOk trystlaw11_Theirs.T5.2 trystlaw11_Theirs.B5 = true := by kernel_rfl
def trystlaw11_Theirs.T10 : Bool × List (List Nat × List Nat) := (true, [([], []), ([0], [0]), ([], []), ([2], [2]), ([], []), ([3, 4], [3, 4]), ([5], [5]), ([6], [6]), ([7], [7]), ([1, 8, 7], [1, 8]), ([0, 1, 2, 3, 4, 5, 6, 7, 8, 9], []), ([10, 9, 9, 0, 1, 2, 3, 4, 5, 6, 7, 8, 9], [9, 10])])
def trystlaw11_Theirs.B10 : List Nat := [0, 1, 0, 4, 0, 28, 60, 124, 252, 511, 1023, 2047]
theorem trystlaw11_Theirs.tab10 : rtab .any (opsOf Tryz.f8 10) = trystlaw11_Theirs.T10 := by kernel_rfl
theorem trystlaw11_Theirs.bits10 : waitsOk trystlaw11_Theirs.T10.2 trystlaw11_Theirs.B10 = true := by kernel_rfl
set_option maxHeartbeats 8000000 in
set_option maxRecDepth 100000 in
theorem trystlaw11_Theirs.calls (k : Nat) : ∀ (a0_0 : ByteArray) (A0_1 : Option Addr) (c0_1 : Nat) (l0_1 : List (S53)) (A0_2 : Option Addr) (c0_2 : Nat) (l0_2 : List (S25)) (r1 : ByteArray) (r2 : List (S49)) (r3 : List (S31)) (w : World) (hG : GG w) (hr0_1 : Kd.C k53 w A0_1 l0_1.length l0_1) (hc0_1 : l0_1.length ≤ c0_1) (hr0_2 : Kd.C k25 w A0_2 l0_2.length l0_2) (hc0_2 : l0_2.length ≤ c0_2) (h : trystlaw11_Theirs.f k a0_0 l0_1 l0_2 = some (r1, r2, r3)),
  Calls Tryz.prog 8 #[.agg #[.string a0_0, .slice A0_1 l0_1.length c0_1, .slice A0_2 l0_2.length c0_2]] w fun e w' => ∃ v1_ v2_ : Value, e = .returned (.agg #[.string r1, v1_, v2_]) ∧ Kd.R k49 49 w' w.heap.size (fun _ => True) v1_ r2 ∧ Kd.R k31 31 w' w.heap.size (fun k_ => some k_ ≠ (v1_ : Value).ownBlock) v2_ r3 ∧ Below w.heap.size w w' := by
 induction k using Nat.strongRecOn with
 | _ k ih =>
 intro a0_0 A0_1 c0_1 l0_1 A0_2 c0_2 l0_2 r1 r2 r3 w hG hr0_1 hc0_1 hr0_2 hc0_2 h
 cases k with
 | zero => exact absurd h (by simp [trystlaw11_Theirs.f])
 | succ k =>
 simp only [trystlaw11_Theirs.f] at h; have hu25 := Tryz.underlying25; have hu31 := Tryz.underlying31; have hu53 := Tryz.underlying53; have HR0_1 := Aside0.mk hr0_1; have HC0_1 := Aside0.mk hc0_1; clear hr0_1 hc0_1; have HR0_2 := Aside0.mk hr0_2; have HC0_2 := Aside0.mk hc0_2; clear hr0_2 hc0_2; have HB := Aside0.mk (Below.refl w.heap.size w); have H : (trystlaw11_Theirs.l0 k (l0_1.length : Int) 0 a0_0 l0_1 l0_2 a0_0 ([] : List (S49))) = some (r1, r2, r3) := h; clear h; have H' := Aside0.mk H; clear H
 go_enter Tryz.func8, Tryz.ntmps8
 go_wp2_with (first | ((with_reducible refine gate_dst (N := 1) rfl ?_); refine zbox (N := 1) #[.string a0_0, .slice A0_1 l0_1.length c0_1, .slice A0_2 l0_2.length c0_2] 25 (fun gb209 hg w2 hbox hb => ?_); replace BK209 := Aside0.mk hbox; replace GE209 := zg w hg; replace HB := zw hb; clear hb hbox hg) | ((with_reducible refine gate_dst (N := 2) rfl ?_); refine zbox (N := 2) #[.string (⟨#[]⟩ : ByteArray), .slice none 0 0, .slice none 0 0] 31 (fun gb210 hg w3 hbox hb => ?_); replace BK210 := Aside0.mk hbox; replace GE210 := zg w hg; replace HB := zw hb; replace NB209_210 := zn BK209 hg; replace NB210_209 := zm BK209 hg; replace BK209 := zb BK209 hb; clear hb hbox hg; have hnb4 := NB209_210.out; have hnc4 := NB210_209.out; obtain ⟨hcz5_0, hcz5_1, hcz5_2, hfz5_0, hfz5_1, hfz5_2⟩ := zk3 BK209) | ((with_reducible refine gate_dst (N := 3) rfl ?_); refine zbox (N := 3) #[.string (⟨#[]⟩ : ByteArray), .slice none 0 0, .slice none 0 0] 31 (fun gb211 hg w6 hbox hb => ?_); replace BK211 := Aside0.mk hbox; replace GE211 := zg w hg; replace HB := zw hb; replace NB209_211 := zn BK209 hg; replace NB211_209 := zm BK209 hg; replace BK209 := zb BK209 hb; replace NB210_211 := zn BK210 hg; replace NB211_210 := zm BK210 hg; replace BK210 := zb BK210 hb; clear hb hbox hg; have hnb7 := NB211_209.out; have hnc7 := NB209_211.out; have hnb8 := NB211_210.out; have hnc8 := NB210_211.out; obtain ⟨hcz9_0, hcz9_1, hcz9_2, hfz9_0, hfz9_1, hfz9_2⟩ := zk3 BK211; obtain ⟨hcz10_0, hcz10_1, hcz10_2, hfz10_0, hfz10_1, hfz10_2⟩ := zk3 BK209))
 go_loopg [12] k (fun kq v12 w' => ∃ (x12_1 : Int) (x212001_1 : List (S49)) (u212001 : Value), v12 = .int .i64 x12_1 ∧ Aside0 (trystlaw11_Theirs.l0 kq (l0_1.length : Int) x12_1 a0_0 l0_1 l0_2 a0_0 x212001_1 = some (r1, r2, r3)) ∧ Aside0 (kq ≤ k) ∧ Aside0 (Kd.R k49 49 w' w.heap.size (fun _ => True) u212001 x212001_1) ∧ Aside0 (w'.heap[gb209]? = some (.cells #[.string a0_0, (.slice A0_1 l0_1.length c0_1), (.slice A0_2 l0_2.length c0_2)] 25 (0, 0))) ∧ Aside0 (w'.heap[gb210]? = some (.cells #[.string (⟨#[]⟩ : ByteArray), (.slice none 0 0), (.slice none 0 0)] 31 (0, 0))) ∧ Aside0 (w'.heap[gb211]? = some (.cells #[.string a0_0, u212001, (.slice none 0 0)] 31 (0, 0))) ∧ Aside0 (Below w.heap.size w w'))
 case atStart => exact ⟨(0), (([] : List (S49))), (.slice none 0 0), zS, H', ⟨Nat.le_refl _⟩, ⟨by first | exact Kd.R_nil _ _ _ _ _ | exact Kd.N_nil _ _ _ _ _ | exact Kd.V_nil _ _ _ _ _ | exact Kd.Q_nil _ _ _ _ _ | exact Kd.S_nil _ _ _ _ _⟩, ⟨by (with_reducible repeat (first | refine blk_drewN ?_ _ | refine blk_drew ?_ | refine blk_alloc ?_ _)); refine blk_far ?_ NB209_211.out _; (with_reducible repeat (first | refine blk_drewN ?_ _ | refine blk_drew ?_ | refine blk_alloc ?_ _)); refine blk_far ?_ NB209_211.out _; (with_reducible repeat (first | refine blk_drewN ?_ _ | refine blk_drew ?_ | refine blk_alloc ?_ _)); refine blk_far ?_ NB209_211.out _; (with_reducible repeat (first | refine blk_drewN ?_ _ | refine blk_drew ?_ | refine blk_alloc ?_ _)); exact BK209.out⟩, ⟨by (with_reducible repeat (first | refine blk_drewN ?_ _ | refine blk_drew ?_ | refine blk_alloc ?_ _)); refine blk_far ?_ NB210_211.out _; (with_reducible repeat (first | refine blk_drewN ?_ _ | refine blk_drew ?_ | refine blk_alloc ?_ _)); refine blk_far ?_ NB210_211.out _; (with_reducible repeat (first | refine blk_drewN ?_ _ | refine blk_drew ?_ | refine blk_alloc ?_ _)); refine blk_far ?_ NB210_211.out _; (with_reducible repeat (first | refine blk_drewN ?_ _ | refine blk_drew ?_ | refine blk_alloc ?_ _)); exact BK210.out⟩, ⟨by (with_reducible repeat (first | refine blk_drewN ?_ _ | refine blk_drew ?_ | refine blk_alloc ?_ _)); refine blk_put (cs := #[.string a0_0, .slice none 0 0, .slice none 0 0]) ?_ 2 _ rfl; (with_reducible repeat (first | refine blk_drewN ?_ _ | refine blk_drew ?_ | refine blk_alloc ?_ _)); refine blk_put (cs := #[.string a0_0, .slice none 0 0, .slice none 0 0]) ?_ 1 _ rfl; (with_reducible repeat (first | refine blk_drewN ?_ _ | refine blk_drew ?_ | refine blk_alloc ?_ _)); refine blk_put (cs := #[.string (⟨#[]⟩ : ByteArray), .slice none 0 0, .slice none 0 0]) ?_ 0 _ rfl; (with_reducible repeat (first | refine blk_drewN ?_ _ | refine blk_drew ?_ | refine blk_alloc ?_ _)); exact BK211.out⟩, ⟨zB⟩⟩
 case round =>
  clear H'; clear hcz10_0 hcz10_1 hcz10_2 hcz5_0 hcz5_1 hcz5_2 hcz9_0 hcz9_1 hcz9_2 hfz10_0 hfz10_1 hfz10_2 hfz5_0 hfz5_1 hfz5_2 hfz9_0 hfz9_1 hfz9_2; obtain ⟨x12_1, x212001_1, u212001, rfl, HA, HK1, HO_212001, BK209, BK210, BK211, HB⟩ := hrel
  cases gk with
  | zero => exact absurd HA.out (by simp [trystlaw11_Theirs.l0])
  | succ k1 =>
   have H := HA.out; clear HA; simp only [trystlaw11_Theirs.l0] at H; replace H := zId H; rcases H with ⟨-, c11b0, H⟩ | ⟨-, c11b0, H⟩
   ·replace H := zJJ H; obtain ⟨c12b0, c13b0, H⟩ := H; replace H := Option.bind_eq_some_iff.mp H; obtain ⟨⟨t213, t214, t217⟩, A140, H⟩ := H; replace H : (if x212001_1.length < 2513169434916 then (trystlaw11_Theirs.l0 k1 (l0_1.length : Int) (wrap64 (x12_1 + 1)) a0_0 l0_1 l0_2 a0_0 (x212001_1 ++ [(⟨t213, t214, t217⟩ : S49)])) else (none)) = some (r1, r2, r3) := H; have A14 := Aside0.mk A140; clear A140; replace H := zJ H; obtain ⟨c15, H⟩ := H; have LMc15 := Aside0.mk c15; clear c15; obtain ⟨y218, hy218⟩ : ∃ y_ : List (S49), y_ = (x212001_1 ++ [(⟨t213, t214, t217⟩ : S49)]) := ⟨_, rfl⟩
    replace H : (trystlaw11_Theirs.l0 k1 (l0_1.length : Int) (wrap64 (x12_1 + 1)) a0_0 l0_1 l0_2 a0_0 y218) = some (r1, r2, r3) := by first | (rw [hy218]; with_reducible exact H) | (have H2_ := (Option.bind_some _ _).symm.trans H; rw [hy218]; with_reducible exact H2_) | (have H2_ := (Option.bind_some _ _).symm.trans H; with_reducible exact H2_) | with_reducible exact H | (rw [hy218]; exact H) | exact H
    have Ny218 := Aside0.mk hy218; clear hy218; have H' := Aside0.mk H; clear H
    try go_wp2
    replace HO_212001 := Aside0.mk (Kd.R_drew HO_212001.out); replace BK209 := Aside0.mk (blk_drew BK209.out); replace BK210 := Aside0.mk (blk_drew BK210.out); replace BK211 := Aside0.mk (blk_drew BK211.out); replace HB := Aside0.mk (below_drew1 HB.out); have p212 := zQ (0 ≤ (x12_1 : Int)); have q212 := zQ (x12_1 < (l0_1.length : Int)); obtain ⟨ad212, A212_1, c212_1, e212, hx212_0, hx212_1, hx212_2, hl212_1, hi212_1⟩ := at_T53 HR0_1.out x12_1 p212 q212; have hw212_2 := hx212_2; have hw212_1 := hx212_1; have hw212_0 := hx212_0
    cases e212
    replace hx212_0 := zx HB hx212_0; replace hx212_1 := zx HB hx212_1; replace hx212_2 := zx HB hx212_2; have HR212_1 := Aside0.mk hi212_1; have HC212_1 := Aside0.mk hl212_1; clear hi212_1 hl212_1; replace p212 := eq_true p212; replace q212 := eq_true q212
    refine start_ (n := 12) (S := fun w' => w'.cell? ⟨gb211, 0, none⟩ = some (.string a0_0) ∧ w'.cell? ⟨gb211, 1, none⟩ = some (u212001) ∧ w'.cell? ⟨gb211, 2, none⟩ = some (.slice none 0 0) ∧ w'.cell? ⟨gb209, 0, none⟩ = some (.string a0_0) ∧ w'.cell? ⟨gb209, 1, none⟩ = some (.slice (some ad212) l0_1.length c0_1) ∧ w'.cell? ⟨gb209, 2, none⟩ = some (.slice A0_2 l0_2.length c0_2) ∧ w'.cell? (ad212.add ((x12_1).toNat * 3)) = some (.string ((rd_T53 l0_1 x12_1).f0)) ∧ w'.cell? ⟨(ad212.add ((x12_1).toNat * 3)).block, (ad212.add ((x12_1).toNat * 3)).off + 1, none⟩ = some (.slice A212_1 ((rd_T53 l0_1 x12_1).f1).length c212_1) ∧ w'.cell? ⟨(ad212.add ((x12_1).toNat * 3)).block, (ad212.add ((x12_1).toNat * 3)).off + 2, none⟩ = some (.string ((rd_T53 l0_1 x12_1).f2))) (ds := [11]) (bs 12 0) (by kernel_rfl) rfl rfl ⟨(blk_cell BK211.out 0).trans rfl, (blk_cell BK211.out 1).trans rfl, (blk_cell BK211.out 2).trans rfl, (blk_cell BK209.out 0).trans rfl, (blk_cell BK209.out 1).trans rfl, (blk_cell BK209.out 2).trans rfl, (zx HB hw212_0), (zx HB hw212_1), (zx HB hw212_2)⟩ (fun hHeld => ?_); refine with_tabW trystlaw11_Theirs.tab5 trystlaw11_Theirs.bits5 (fun HT_ HW_ => ?_)
    generalize wr.drew = w16 at HO_212001 BK209 BK210 BK211 HB HR212_1 hx212_0 hx212_1 hx212_2 hHeld ⊢; refine zp 0 15 (bs 12 1) ?_; refine zp 2 17 (bs 12 5) ?_; refine zp 4 19 (bs 12 21) ?_; refine zt 1 16 (bs 12 23) ?_; refine zt 3 18 (bs 12 31) ?_; refine zp 5 20 (bs 12 63) ?_; refine zt 6 21 (bs 12 127) ?_; refine one_ (i := 7) (N := some 22) (bs 12 255) rfl rfl (one_of HT_.out (by kernel_rfl)) (by decide) (fun K hK => ?_); refine goes_ Tryz.func20 (by kernel_rfl) rfl #[.agg #[.string ((rd_T53 l0_1 x12_1).f0), .slice A212_1 ((rd_T53 l0_1 x12_1).f1).length c212_1, .string ((rd_T53 l0_1 x12_1).f2)]] (by rfl) rfl rfl zA ?_
    with_reducible refine (trystlaw10_Theirs.calls k1 ((rd_T53 l0_1 x12_1).f0) _ _ ((rd_T53 l0_1 x12_1).f1) ((rd_T53 l0_1 x12_1).f2) t213 t214 t217 _ zG ?side1 ?side2 A14.out).mono ?_
    (case side1 => exact Kd.C_below (Kd.C_below HR212_1.out HB.out) zX)
    (case side2 => exact HC212_1.out)
    rintro e w17 ⟨v215, rfl, ho0, hb⟩; refine ⟨_, rfl, ?_⟩; replace HO_212001 := Aside0.mk (Kd.R_elder' (Kd.R_below HO_212001.out zX) (Kd.S_base ho0) hb); replace HO216 := Aside0.mk (Kd.S_lower ho0 (below_size zB)); replace BK209 := zb BK209 hb; replace BK210 := zb BK210 hb; replace BK211 := zb BK211 hb; replace HB := zw hb; clear hb; (try clear hb2); (try clear hk); (try clear hi); (try clear ho0); obtain ⟨Ao19, co19, eo19⟩ := Kd.S_slice HO216.out
    (first | subst eo19 | (injection eo19 with f1_ f2_ f3_; have f4_ := f1_.symm; have f5_ := f3_.symm; clear f1_ f2_ f3_; subst f4_; subst f5_))
    refine hK.out _ _ ⟨(blk_cell BK211.out 0).trans rfl, (blk_cell BK211.out 1).trans rfl, (blk_cell BK211.out 2).trans rfl, (blk_cell BK209.out 0).trans rfl, (blk_cell BK209.out 1).trans rfl, (blk_cell BK209.out 2).trans rfl, (zx HB hw212_0), (zx HB hw212_1), (zx HB hw212_2)⟩ (fun hHeld => ?_); clear hK K; refine zr ?_; refine one_ (i := 8) (N := some 23) (bs 12 511) rfl rfl (one_of HT_.out (by kernel_rfl)) (by decide) (fun K hK => ?_); refine value_ (w1 := ?_) (v := ?_) (by rfl) rfl ?_ ?_; rotate_left 2
    ·go_simp
     constructor
     ·rfl
     ·rfl
    refine hK.out _ _ ⟨(blk_cell (blk_alloc BK211.out _) 0).trans rfl, (blk_cell (blk_alloc BK211.out _) 1).trans rfl, (blk_cell (blk_alloc BK211.out _) 2).trans rfl, (blk_cell (blk_alloc BK209.out _) 0).trans rfl, (blk_cell (blk_alloc BK209.out _) 1).trans rfl, (blk_cell (blk_alloc BK209.out _) 2).trans rfl, (World.cell?_alloc_lt _ _ _ (World.block_lt_of_cell? _ _ ((zx HB hw212_0)))).trans ((zx HB hw212_0)), (World.cell?_alloc_lt _ _ _ (World.block_lt_of_cell? _ _ ((zx HB hw212_1)))).trans ((zx HB hw212_1)), (World.cell?_alloc_lt _ _ _ (World.block_lt_of_cell? _ _ ((zx HB hw212_2)))).trans ((zx HB hw212_2))⟩ (fun hHeld => ?_)
    clear hK K; refine zr ?_; refine one_ (i := 9) (N := some 24) (bs 12 1023) rfl rfl (one_of HT_.out (by kernel_rfl)) (by decide) (fun K hK => ?_); refine Kd.R_append_step k49 (w0 := w) w.heap.size (by rfl) (.tmp 16) (.tmp 23) 28 49 (.agg #[(.string ⟨#[]⟩), (.slice none 0 0), (.string ⟨#[]⟩)]) 56 rfl Tryz.underlying28 info49 rfl (by decide) (by omega) u212001 x212001_1 (⟨t213, t214, t217⟩ : S49) [.string t213, .slice Ao19 t214.length co19, .string t217] (fun _ => True) (fun k_ => ((fun _ => True)) k_ ∧ some k_ ≠ (u212001 : Value).ownBlock) rfl rfl ?aP (fun _ hk => hk) ?aF ?aO ?aB ?aS ?aL ?_
    (case aP => exact k49_mkM _ _ _ (⟨t213, t214, t217⟩ : S49) (Kd.R_mono (Kd.R_apart' ((Kd.S_R HO216.out)) (Kd.R_typed HO_212001.out) (by decide)) (fun k_ hk => ⟨trivial, hk.2⟩)))
    (case aB => exact zB)
    (case aF => exact (fun _ _ => trivial))
    (case aO => exact (by (with_reducible repeat (first | apply Kd.R_alloc | apply Kd.R_drewN | apply Kd.R_drew)); exact Kd.R_mono HO_212001.out (fun _ hk => trivial)))
    (case aS => exact (below_size zB))
    (case aL => have := LMc15.out; omega)
    intro v219 w18 ho hb hg hat; rw [← Ny218.out] at ho; have n0_ := Aside0.mk (blk_grown (g := gb209) (o := .cells #[.string a0_0, .slice (some ad212) l0_1.length c0_1, .slice A0_2 l0_2.length c0_2] 25 (0, 0)) (blk_below BK209.out zX) hg (Kd.R_ne HO_212001.out BK209.out (by decide))); have n1_ := Aside0.mk (blk_grown (g := gb210) (o := .cells #[.string (⟨#[]⟩ : ByteArray), .slice none 0 0, .slice none 0 0] 31 (0, 0)) (blk_below BK210.out zX) hg (Kd.R_ne HO_212001.out BK210.out (by decide))); have n2_ := Aside0.mk (blk_grown (g := gb211) (o := .cells #[.string a0_0, u212001, .slice none 0 0] 31 (0, 0)) (blk_below BK211.out zX) hg (Kd.R_ne HO_212001.out BK211.out (by decide))); have n3_ := Aside0.mk (hb); have n4_ := Aside0.mk (ho); clear BK209; clear BK210; clear BK211; clear HB; clear HO_212001; clear HO216; have BK209 := n0_; have BK210 := n1_; have BK211 := n2_; have HB := n3_
    have HO220 := n4_; clear n0_ n1_ n2_ n3_ n4_; clear ho hb hg hat; obtain ⟨Ao20, co20, eo20⟩ := Kd.R_slice HO220.out
    (first | subst eo20 | (injection eo20 with f1_ f2_ f3_; have f4_ := f1_.symm; have f5_ := f3_.symm; clear f1_ f2_ f3_; subst f4_; subst f5_))
    refine hK.out _ _ ⟨(blk_cell BK211.out 0).trans rfl, (blk_cell BK211.out 1).trans rfl, (blk_cell BK211.out 2).trans rfl, (blk_cell BK209.out 0).trans rfl, (blk_cell BK209.out 1).trans rfl, (blk_cell BK209.out 2).trans rfl, (zx HB hw212_0), (zx HB hw212_1), (zx HB hw212_2)⟩ (fun hHeld => ?_); clear hK K; refine zr ?_; refine zp 10 25 (bs 12 2047) ?_; refine last_ (i := 11) (N := none) (bs 12 4095) rfl rfl (one_of HT_.out (by kernel_rfl)) (by decide) (fun K hK => ?_); have hs21 : w18.cell? ⟨gb211, 1, none⟩ = some (u212001) := (blk_cell BK211.out 1).trans rfl; have hfs21 := zf BK211 1; have hns21_0 := NB209_211.out; have hns21_1 := NB210_211.out; have hms21_0 := NB211_209.out; have hms21_1 := NB211_210.out
    refine skip_ (w1 := ?_) (by rfl) rfl ?_ ?_; rotate_left
    ·go_simp; rfl
    refine hK.out _ _ ?_; clear hK K; refine done_ (done_of HT_.out (by kernel_rfl)) ?_
    try go_wp2
    go_roundg k1
    case measure => have := HK1.out; omega
    case rel => exact ⟨(wrap64 (x12_1 + 1)), (y218), (.slice Ao20 y218.length co20), zS, H', ⟨by have := HK1.out; omega⟩, ⟨by (with_reducible repeat (first | apply Kd.R_alloc | apply Kd.R_drewN | apply Kd.R_drew)); exact Kd.R_mono (Kd.R_far (p := ⟨gb211, 1, none⟩) (Kd.R_types HO220.out BK211.out (by decide)) (fun _ hk => hk.2) (.slice Ao20 y218.length co20)) (fun _ hk => trivial)⟩, ⟨by (with_reducible repeat (first | refine blk_drewN ?_ _ | refine blk_drew ?_ | refine blk_alloc ?_ _)); refine blk_far ?_ NB209_211.out _; (with_reducible repeat (first | refine blk_drewN ?_ _ | refine blk_drew ?_ | refine blk_alloc ?_ _)); exact BK209.out⟩, ⟨by (with_reducible repeat (first | refine blk_drewN ?_ _ | refine blk_drew ?_ | refine blk_alloc ?_ _)); refine blk_far ?_ NB210_211.out _; (with_reducible repeat (first | refine blk_drewN ?_ _ | refine blk_drew ?_ | refine blk_alloc ?_ _)); exact BK210.out⟩, ⟨by (with_reducible repeat (first | refine blk_drewN ?_ _ | refine blk_drew ?_ | refine blk_alloc ?_ _)); refine blk_put (cs := #[.string a0_0, u212001, .slice none 0 0]) ?_ 1 _ rfl; (with_reducible repeat (first | refine blk_drewN ?_ _ | refine blk_drew ?_ | refine blk_alloc ?_ _)); exact BK211.out⟩, ⟨zB⟩⟩
   ·have H' := Aside0.mk H; clear H; have hnb22 := NB209_210.out; have hnc22 := NB210_209.out; have hnb23 := NB209_211.out; have hnc23 := NB211_209.out; obtain ⟨hcz24_0, hcz24_1, hcz24_2, hfz24_0, hfz24_1, hfz24_2⟩ := zk3 BK209; go_wp2
    go_loopg [30] k1 (fun kq v30 w' => ∃ (x30_2 : Int) (x212002_2 : List (S31)) (u212002 : Value), v30 = .int .i64 x30_2 ∧ Aside0 (trystlaw11_Theirs.l1 kq (l0_2.length : Int) x30_2 a0_0 l0_1 l0_2 a0_0 x212001_1 x212002_2 = some (r1, r2, r3)) ∧ Aside0 (kq ≤ k1) ∧ Aside0 (Kd.R k49 49 w' w.heap.size (fun _ => True) u212001 x212001_1) ∧ Aside0 (Kd.R k31 31 w' w.heap.size (fun k_ => some k_ ≠ (u212001 : Value).ownBlock ∧ k_ ≠ gb210 ∧ k_ ≠ gb211) u212002 x212002_2) ∧ Aside0 (w'.heap[gb209]? = some (.cells #[.string a0_0, (.slice A0_1 l0_1.length c0_1), (.slice A0_2 l0_2.length c0_2)] 25 (0, 0))) ∧ Aside0 (w'.heap[gb210]? = some (.cells #[.string (⟨#[]⟩ : ByteArray), (.slice none 0 0), (.slice none 0 0)] 31 (0, 0))) ∧ Aside0 (w'.heap[gb211]? = some (.cells #[.string a0_0, u212001, u212002] 31 (0, 0))) ∧ Aside0 (Below w.heap.size w w'))
    case atStart => exact ⟨(0), (([] : List (S31))), (.slice none 0 0), zS, H', ⟨Nat.le_refl _⟩, ⟨Kd.R_below HO_212001.out zX⟩, ⟨by first | exact Kd.R_nil _ _ _ _ _ | exact Kd.N_nil _ _ _ _ _ | exact Kd.V_nil _ _ _ _ _ | exact Kd.Q_nil _ _ _ _ _ | exact Kd.S_nil _ _ _ _ _⟩, ⟨blk_below BK209.out zX⟩, ⟨blk_below BK210.out zX⟩, ⟨blk_below BK211.out zX⟩, ⟨zB⟩⟩
    case round =>
     clear H'; clear c11b0 hcz24_0 hcz24_1 hcz24_2 hfz24_0 hfz24_1 hfz24_2; obtain ⟨x30_2, x212002_2, u212002, rfl, HA, HK2, HO_212001, HO_212002, BK209, BK210, BK211, HB⟩ := hrel
     cases gk with
     | zero => exact absurd HA.out (by simp [trystlaw11_Theirs.l1])
     | succ k2 =>
      have H := HA.out; clear HA; simp only [trystlaw11_Theirs.l1] at H; replace H := zId H; rcases H with ⟨-, c25b0, H⟩ | ⟨-, c25b0, H⟩
      ·replace H := zJJ H; obtain ⟨c26b0, c27b0, H⟩ := H; replace H := Option.bind_eq_some_iff.mp H; obtain ⟨⟨t222, t223, t226⟩, A280, H⟩ := H; replace H : (if x212002_2.length < 2199023255552 then (trystlaw11_Theirs.l1 k2 (l0_2.length : Int) (wrap64 (x30_2 + 1)) a0_0 l0_1 l0_2 a0_0 x212001_1 (x212002_2 ++ [(⟨t222, t223, t226⟩ : S31)])) else (none)) = some (r1, r2, r3) := H; have A28 := Aside0.mk A280; clear A280; replace H := zJ H; obtain ⟨c29, H⟩ := H; have LMc29 := Aside0.mk c29; clear c29; obtain ⟨y229, hy229⟩ : ∃ y_ : List (S31), y_ = (x212002_2 ++ [(⟨t222, t223, t226⟩ : S31)]) := ⟨_, rfl⟩
       replace H : (trystlaw11_Theirs.l1 k2 (l0_2.length : Int) (wrap64 (x30_2 + 1)) a0_0 l0_1 l0_2 a0_0 x212001_1 y229) = some (r1, r2, r3) := by first | (rw [hy229]; with_reducible exact H) | (have H2_ := (Option.bind_some _ _).symm.trans H; rw [hy229]; with_reducible exact H2_) | (have H2_ := (Option.bind_some _ _).symm.trans H; with_reducible exact H2_) | with_reducible exact H | (rw [hy229]; exact H) | exact H
       have Ny229 := Aside0.mk hy229; clear hy229; have H' := Aside0.mk H; clear H
       try go_wp2
       replace HO_212001 := Aside0.mk (Kd.R_drew HO_212001.out); replace HO_212002 := Aside0.mk (Kd.R_drew HO_212002.out); replace BK209 := Aside0.mk (blk_drew BK209.out); replace BK210 := Aside0.mk (blk_drew BK210.out); replace BK211 := Aside0.mk (blk_drew BK211.out); replace HB := Aside0.mk (below_drew1 HB.out); have p221 := zQ (0 ≤ (x30_2 : Int)); have q221 := zQ (x30_2 < (l0_2.length : Int)); obtain ⟨ad221, A221_1, c221_1, A221_2, c221_2, e221, hx221_0, hx221_1, hx221_2, hl221_1, hi221_1, hl221_2, hi221_2⟩ := at_T25 HR0_2.out x30_2 p221 q221; have hw221_2 := hx221_2; have hw221_1 := hx221_1; have hw221_0 := hx221_0
       cases e221
       replace hx221_0 := zx HB hx221_0; replace hx221_1 := zx HB hx221_1; replace hx221_2 := zx HB hx221_2; have HR221_1 := Aside0.mk hi221_1; have HC221_1 := Aside0.mk hl221_1; clear hi221_1 hl221_1; have HR221_2 := Aside0.mk hi221_2; have HC221_2 := Aside0.mk hl221_2; clear hi221_2 hl221_2; replace p221 := eq_true p221; replace q221 := eq_true q221
       refine start_ (n := 12) (S := fun w' => w'.cell? ⟨gb211, 0, none⟩ = some (.string a0_0) ∧ w'.cell? ⟨gb211, 1, none⟩ = some (u212001) ∧ w'.cell? ⟨gb211, 2, none⟩ = some (u212002) ∧ w'.cell? ⟨gb209, 0, none⟩ = some (.string a0_0) ∧ w'.cell? ⟨gb209, 1, none⟩ = some (.slice A0_1 l0_1.length c0_1) ∧ w'.cell? ⟨gb209, 2, none⟩ = some (.slice (some ad221) l0_2.length c0_2) ∧ w'.cell? (ad221.add ((x30_2).toNat * 3)) = some (.string ((rd_T25 l0_2 x30_2).f0)) ∧ w'.cell? ⟨(ad221.add ((x30_2).toNat * 3)).block, (ad221.add ((x30_2).toNat * 3)).off + 1, none⟩ = some (.slice A221_1 ((rd_T25 l0_2 x30_2).f1).length c221_1) ∧ w'.cell? ⟨(ad221.add ((x30_2).toNat * 3)).block, (ad221.add ((x30_2).toNat * 3)).off + 2, none⟩ = some (.slice A221_2 ((rd_T25 l0_2 x30_2).f2).length c221_2)) (ds := [11]) (bs 12 0) (by kernel_rfl) rfl rfl ⟨(blk_cell BK211.out 0).trans rfl, (blk_cell BK211.out 1).trans rfl, (blk_cell BK211.out 2).trans rfl, (blk_cell BK209.out 0).trans rfl, (blk_cell BK209.out 1).trans rfl, (blk_cell BK209.out 2).trans rfl, (zx HB hw221_0), (zx HB hw221_1), (zx HB hw221_2)⟩ (fun hHeld => ?_); refine with_tabW trystlaw11_Theirs.tab10 trystlaw11_Theirs.bits10 (fun HT_ HW_ => ?_)
       generalize wr.drew = w30 at HO_212001 HO_212002 BK209 BK210 BK211 HB HR221_1 HR221_2 hx221_0 hx221_1 hx221_2 hHeld ⊢; refine zp 0 33 (bs 12 1) ?_; refine zp 2 35 (bs 12 5) ?_; refine zp 4 37 (bs 12 21) ?_; refine zt 1 34 (bs 12 23) ?_; refine zt 3 36 (bs 12 31) ?_; refine zp 5 38 (bs 12 63) ?_; refine zt 6 39 (bs 12 127) ?_; refine one_ (i := 7) (N := some 40) (bs 12 255) rfl rfl (one_of HT_.out (by kernel_rfl)) (by decide) (fun K hK => ?_); refine goes_ Tryz.func8 (by kernel_rfl) rfl #[.agg #[.string ((rd_T25 l0_2 x30_2).f0), .slice A221_1 ((rd_T25 l0_2 x30_2).f1).length c221_1, .slice A221_2 ((rd_T25 l0_2 x30_2).f2).length c221_2]] (by rfl) rfl rfl zA ?_
       with_reducible refine (ih k2 (by have := HK1.out; have := HK2.out; omega) ((rd_T25 l0_2 x30_2).f0) _ _ ((rd_T25 l0_2 x30_2).f1) _ _ ((rd_T25 l0_2 x30_2).f2) t222 t223 t226 _ zG ?side1 ?side2 ?side3 ?side4 A28.out).mono ?_
       (case side1 => exact Kd.C_below (Kd.C_below HR221_1.out HB.out) zX)
       (case side2 => exact HC221_1.out)
       (case side3 => exact Kd.C_below (Kd.C_below HR221_2.out HB.out) zX)
       (case side4 => exact HC221_2.out)
       rintro e w31 ⟨v224, v227, rfl, ho0, ho1, hb⟩; refine ⟨_, rfl, ?_⟩; have n0_ := Aside0.mk (Kd.R_elder' (Kd.R_below HO_212001.out zX) (Kd.R_base ho0) hb); have n1_ := Aside0.mk (Kd.R_mono (Kd.R_told (Kd.R_told (Kd.R_old (Kd.R_below HO_212002.out zX) hb) (Kd.R_base ho0)) (Kd.R_base ho1)) (fun _ h_ => h_.1)); have n2_ := Aside0.mk (Kd.R_lower (Kd.R_new' ho0 (Kd.R_lt (Kd.R_below HO_212001.out zX))) (below_size zB)); have n3_ := Aside0.mk (Kd.R_lower (Kd.R_newB (Kd.R_newB (Kd.R_new' (Kd.R_new' ho1 (Kd.R_lt (Kd.R_below HO_212001.out zX))) (Kd.R_lt (Kd.R_below HO_212002.out zX))) (g := gb210) (o := .cells #[.string (⟨#[]⟩ : ByteArray), .slice none 0 0, .slice none 0 0] 31 (0, 0)) (blk_below BK210.out zX)) (g := gb211) (o := .cells #[.string a0_0, u212001, u212002] 31 (0, 0)) (blk_below BK211.out zX)) (below_size zB)); have n4_ := zb BK209 hb
       have n5_ := zb BK210 hb; have n6_ := zb BK211 hb; have n7_ := zw hb; clear HO_212001; clear HO_212002; clear BK209; clear BK210; clear BK211; clear HB; have HO_212001 := n0_; have HO_212002 := n1_; have HO225 := n2_; have HO228 := n3_; have BK209 := n4_; have BK210 := n5_; have BK211 := n6_; have HB := n7_; clear n0_ n1_ n2_ n3_ n4_ n5_ n6_ n7_; (try clear hb); (try clear hb2); (try clear hk); (try clear hi); (try clear ho0); (try clear ho1); obtain ⟨Ao33, co33, eo33⟩ := Kd.R_slice HO225.out
       (first | subst eo33 | (injection eo33 with f1_ f2_ f3_; have f4_ := f1_.symm; have f5_ := f3_.symm; clear f1_ f2_ f3_; subst f4_; subst f5_))
       obtain ⟨Ao34, co34, eo34⟩ := Kd.R_slice HO228.out
       (first | subst eo34 | (injection eo34 with f1_ f2_ f3_; have f4_ := f1_.symm; have f5_ := f3_.symm; clear f1_ f2_ f3_; subst f4_; subst f5_))
       refine hK.out _ _ ⟨(blk_cell BK211.out 0).trans rfl, (blk_cell BK211.out 1).trans rfl, (blk_cell BK211.out 2).trans rfl, (blk_cell BK209.out 0).trans rfl, (blk_cell BK209.out 1).trans rfl, (blk_cell BK209.out 2).trans rfl, (zx HB hw221_0), (zx HB hw221_1), (zx HB hw221_2)⟩ (fun hHeld => ?_); clear hK K; refine zr ?_; refine one_ (i := 8) (N := some 41) (bs 12 511) rfl rfl (one_of HT_.out (by kernel_rfl)) (by decide) (fun K hK => ?_); refine value_ (w1 := ?_) (v := ?_) (by rfl) rfl ?_ ?_; rotate_left 2
       ·go_simp
        constructor
        ·rfl
        ·rfl
       refine hK.out _ _ ⟨(blk_cell (blk_alloc BK211.out _) 0).trans rfl, (blk_cell (blk_alloc BK211.out _) 1).trans rfl, (blk_cell (blk_alloc BK211.out _) 2).trans rfl, (blk_cell (blk_alloc BK209.out _) 0).trans rfl, (blk_cell (blk_alloc BK209.out _) 1).trans rfl, (blk_cell (blk_alloc BK209.out _) 2).trans rfl, (World.cell?_alloc_lt _ _ _ (World.block_lt_of_cell? _ _ ((zx HB hw221_0)))).trans ((zx HB hw221_0)), (World.cell?_alloc_lt _ _ _ (World.block_lt_of_cell? _ _ ((zx HB hw221_1)))).trans ((zx HB hw221_1)), (World.cell?_alloc_lt _ _ _ (World.block_lt_of_cell? _ _ ((zx HB hw221_2)))).trans ((zx HB hw221_2))⟩ (fun hHeld => ?_)
       clear hK K; refine zr ?_; refine one_ (i := 9) (N := some 42) (bs 12 1023) rfl rfl (one_of HT_.out (by kernel_rfl)) (by decide) (fun K hK => ?_); refine Kd.R_append_step k31 (w0 := w) w.heap.size (by rfl) (.tmp 34) (.tmp 41) 29 31 (.agg #[(.string ⟨#[]⟩), (.slice none 0 0), (.slice none 0 0)]) 64 rfl Tryz.underlying29 info31 rfl (by decide) (by omega) u212002 x212002_2 (⟨t222, t223, t226⟩ : S31) [.string t222, .slice Ao33 t223.length co33, .slice Ao34 t226.length co34] (fun k_ => some k_ ≠ (u212001 : Value).ownBlock ∧ k_ ≠ gb210 ∧ k_ ≠ gb211) (fun k_ => ((fun k_ => some k_ ≠ (u212001 : Value).ownBlock ∧ k_ ≠ gb210 ∧ k_ ≠ gb211)) k_ ∧ some k_ ≠ (u212002 : Value).ownBlock) rfl rfl ?aP (fun _ hk => hk) ?aF ?aO ?aB ?aS ?aL ?_
       (case aP => exact k31_mkM _ _ _ (⟨t222, t223, t226⟩ : S31) (Kd.R_mono (Kd.R_types (Kd.R_types (Kd.R_apart' (HO225.out) (Kd.R_typed HO_212002.out) (by decide)) BK210.out (by decide)) BK211.out (by decide)) (fun k_ hk => ⟨⟨hk.1.1.1.2, ⟨hk.1.2, hk.2⟩⟩, hk.1.1.2⟩)) (Kd.R_mono (HO228.out) (fun k_ hk => ⟨⟨hk.1.1.1.2, ⟨hk.1.2, hk.2⟩⟩, hk.1.1.2⟩)))
       (case aB => exact zB)
       (case aF => exact (fun k_ hk => ⟨Kd.fresh' (Kd.R_lt (Kd.R_below HO_212001.out zX)) k_ hk, Kd.freshB (g := gb210) (o := .cells #[.string (⟨#[]⟩ : ByteArray), .slice none 0 0, .slice none 0 0] 31 (0, 0)) (blk_below BK210.out zX) k_ hk, Kd.freshB (g := gb211) (o := .cells #[.string a0_0, u212001, u212002] 31 (0, 0)) (blk_below BK211.out zX) k_ hk⟩))
       (case aO => exact (by (with_reducible repeat (first | apply Kd.R_alloc | apply Kd.R_drewN | apply Kd.R_drew)); exact Kd.R_mono HO_212002.out (fun _ hk => ⟨hk.1.1.1, ⟨hk.1.1.2.1, hk.1.1.2.2⟩⟩)))
       (case aS => exact (below_size zB))
       (case aL => have := LMc29.out; omega)
       intro v230 w32 ho hb hg hat; rw [← Ny229.out] at ho; have n0_ := Aside0.mk (Kd.R_over' (Kd.R_below HO_212001.out zX) (Kd.R_typed (Kd.R_below HO_212002.out zX)) (by decide) hg); have n1_ := Aside0.mk (blk_grown (g := gb209) (o := .cells #[.string a0_0, .slice A0_1 l0_1.length c0_1, .slice (some ad221) l0_2.length c0_2] 25 (0, 0)) (blk_below BK209.out zX) hg (Kd.R_ne HO_212002.out BK209.out (by decide))); have n2_ := Aside0.mk (blk_grown (g := gb210) (o := .cells #[.string (⟨#[]⟩ : ByteArray), .slice none 0 0, .slice none 0 0] 31 (0, 0)) (blk_below BK210.out zX) hg (Kd.R_away HO_212002.out (fun _ hk => hk.1.1.2.1))); have n3_ := Aside0.mk (blk_grown (g := gb211) (o := .cells #[.string a0_0, u212001, u212002] 31 (0, 0)) (blk_below BK211.out zX) hg (Kd.R_away HO_212002.out (fun _ hk => hk.1.1.2.2))); have n4_ := Aside0.mk (hb); have n5_ := Aside0.mk (ho); clear HO_212001
       clear BK209; clear BK210; clear BK211; clear HB; clear HO_212002; clear HO225; clear HO228; have HO_212001 := n0_; have BK209 := n1_; have BK210 := n2_; have BK211 := n3_; have HB := n4_; have HO231 := n5_; clear n0_ n1_ n2_ n3_ n4_ n5_; clear ho hb hg hat; obtain ⟨Ao35, co35, eo35⟩ := Kd.R_slice HO231.out
       (first | subst eo35 | (injection eo35 with f1_ f2_ f3_; have f4_ := f1_.symm; have f5_ := f3_.symm; clear f1_ f2_ f3_; subst f4_; subst f5_))
       refine hK.out _ _ ⟨(blk_cell BK211.out 0).trans rfl, (blk_cell BK211.out 1).trans rfl, (blk_cell BK211.out 2).trans rfl, (blk_cell BK209.out 0).trans rfl, (blk_cell BK209.out 1).trans rfl, (blk_cell BK209.out 2).trans rfl, (zx HB hw221_0), (zx HB hw221_1), (zx HB hw221_2)⟩ (fun hHeld => ?_); clear hK K; refine zr ?_; refine zp 10 43 (bs 12 2047) ?_; refine last_ (i := 11) (N := none) (bs 12 4095) rfl rfl (one_of HT_.out (by kernel_rfl)) (by decide) (fun K hK => ?_); have hs36 : w32.cell? ⟨gb211, 2, none⟩ = some (u212002) := (blk_cell BK211.out 2).trans rfl; have hfs36 := zf BK211 2; have hns36_0 := NB209_211.out; have hns36_1 := NB210_211.out; have hms36_0 := NB211_209.out; have hms36_1 := NB211_210.out
       refine skip_ (w1 := ?_) (by rfl) rfl ?_ ?_; rotate_left
       ·go_simp; rfl
       refine hK.out _ _ ?_; clear hK K; refine done_ (done_of HT_.out (by kernel_rfl)) ?_
       try go_wp2
       go_roundg k2
       case measure => have := HK1.out; have := HK2.out; omega
       case rel => exact ⟨(wrap64 (x30_2 + 1)), (y229), (.slice Ao35 y229.length co35), zS, H', ⟨by have := HK1.out; have := HK2.out; omega⟩, ⟨by (with_reducible repeat (first | apply Kd.R_alloc | apply Kd.R_drewN | apply Kd.R_drew)); exact Kd.R_mono (Kd.R_far (p := ⟨gb211, 2, none⟩) (Kd.R_types HO_212001.out BK211.out (by decide)) (fun _ hk => hk.2) (.slice Ao35 y229.length co35)) (fun _ hk => trivial)⟩, ⟨by (with_reducible repeat (first | apply Kd.R_alloc | apply Kd.R_drewN | apply Kd.R_drew)); exact Kd.R_mono (Kd.R_far (p := ⟨gb211, 2, none⟩) (Kd.R_mono HO231.out (fun k_ hk => (⟨hk, hk.2.2⟩ : _ ∧ k_ ≠ gb211))) (fun _ hk => hk.2) (.slice Ao35 y229.length co35)) (fun _ hk => ⟨hk.1.1, ⟨hk.1.2.1, hk.1.2.2⟩⟩)⟩, ⟨by (with_reducible repeat (first | refine blk_drewN ?_ _ | refine blk_drew ?_ | refine blk_alloc ?_ _)); refine blk_far ?_ NB209_211.out _; (with_reducible repeat (first | refine blk_drewN ?_ _ | refine blk_drew ?_ | refine blk_alloc ?_ _)); exact BK209.out⟩, ⟨by (with_reducible repeat (first | refine blk_drewN ?_ _ | refine blk_drew ?_ | refine blk_alloc ?_ _)); refine blk_far ?_ NB210_211.out _; (with_reducible repeat (first | refine blk_drewN ?_ _ | refine blk_drew ?_ | refine blk_alloc ?_ _)); exact BK210.out⟩, ⟨by (with_reducible repeat (first | refine blk_drewN ?_ _ | refine blk_drew ?_ | refine blk_alloc ?_ _)); refine blk_put (cs := #[.string a0_0, u212001, u212002]) ?_ 2 _ rfl; (with_reducible repeat (first | refine blk_drewN ?_ _ | refine blk_drew ?_ | refine blk_alloc ?_ _)); exact BK211.out⟩, ⟨zB⟩⟩
      ·simp only [Option.some.injEq, Prod.mk.injEq] at H; obtain ⟨rfl, rfl, rfl⟩ := H; have hnb37 := NB211_209.out; have hnc37 := NB209_211.out; have hnb38 := NB211_210.out; have hnc38 := NB210_211.out; obtain ⟨hcz39_0, hcz39_1, hcz39_2, hfz39_0, hfz39_1, hfz39_2⟩ := zk3 BK211; have hnb40 := NB210_209.out; have hnc40 := NB209_210.out; have hcz41_0 := zc0 BK210; have hcz41_1 := zc1 BK210
       have hcz41_2 := zc2 BK210; have hfz41_0 := zf BK210 0; have hfz41_1 := zf BK210 1; have hfz41_2 := zf BK210 2; obtain ⟨Ao42, co42, eo42⟩ := Kd.R_slice HO_212001.out; subst eo42; obtain ⟨Ao43, co43, eo43⟩ := Kd.R_slice HO_212002.out; subst eo43; go_wp2
       refine bodyPost_ret (results_cell_row rfl _ _ gb210 31 #[.string a0_0, .slice Ao42 x212001_1.length co42, .slice Ao43 x212002_2.length co43] (0, 0) _ rfl (by (with_reducible repeat (first | refine blk_drewN ?_ _ | refine blk_drew ?_ | refine blk_alloc ?_ _)); refine blk_put (cs := #[.string a0_0, .slice Ao42 x212001_1.length co42, .slice none 0 0]) ?_ 2 _ rfl; (with_reducible repeat (first | refine blk_drewN ?_ _ | refine blk_drew ?_ | refine blk_alloc ?_ _)); refine blk_put (cs := #[.string a0_0, .slice none 0 0, .slice none 0 0]) ?_ 1 _ rfl; (with_reducible repeat (first | refine blk_drewN ?_ _ | refine blk_drew ?_ | refine blk_alloc ?_ _)); refine blk_put (cs := #[.string (⟨#[]⟩ : ByteArray), .slice none 0 0, .slice none 0 0]) ?_ 0 _ rfl; (with_reducible repeat (first | refine blk_drewN ?_ _ | refine blk_drew ?_ | refine blk_alloc ?_ _)); exact BK210.out) Tryz.underlying31 rfl (by kernel_rfl)) rfl ?_
       exact ⟨_, _, zE, by (with_reducible repeat (first | apply Kd.R_alloc | apply Kd.R_drewN | apply Kd.R_drew)); exact Kd.R_mono (Kd.R_far (p := ⟨gb210, 2, none⟩) (Kd.R_far (p := ⟨gb210, 1, none⟩) (Kd.R_far (p := ⟨gb210, 0, none⟩) (Kd.R_types HO_212001.out BK210.out (by decide)) (fun _ hk => hk.2) (.string a0_0)) (fun _ hk => hk.2) (.slice Ao42 x212001_1.length co42)) (fun _ hk => hk.2) (.slice Ao43 x212002_2.length co43)) (fun _ hk => trivial), by (with_reducible repeat (first | apply Kd.R_alloc | apply Kd.R_drewN | apply Kd.R_drew)); exact Kd.R_mono (Kd.R_far (p := ⟨gb210, 2, none⟩) (Kd.R_far (p := ⟨gb210, 1, none⟩) (Kd.R_far (p := ⟨gb210, 0, none⟩) (Kd.R_mono HO_212002.out (fun k_ hk => (⟨hk, hk.2.1⟩ : _ ∧ k_ ≠ gb210))) (fun _ hk => hk.2) (.string a0_0)) (fun _ hk => hk.2) (.slice Ao42 x212001_1.length co42)) (fun _ hk => hk.2) (.slice Ao43 x212002_2.length co43)) (fun _ hk => hk.1.1), zB⟩
end Go.Proofs.YtdojmdbaiddkgaaGreatDoor.Print
end
section
namespace Go.Proofs.YtdojmdbaiddkgaaGreatDoor.Print
open Go.RowKit Go.Proofs.YtdojmdbaiddkgaaGreatDoorW.PrintWords Go.Proofs.YtdojmdbaiddkgaaGreatDoorW.PrintLast Go.Proofs.YtdojmdbaiddkgaaGreatDoorW.PrintMore
set_option linter.unusedVariables false
set_option linter.unusedSimpArgs false
mutual
def trystlaw11_Same.j0 : Nat → Bool → ByteArray → List (S53) → List (S25) → ByteArray → List (S53) → List (S25) → Option (Bool)
 | 0, _, _, _, _, _, _, _ => none
 | k + 1, x29, x300000, x300001, x300002, x301000, x301001, x301002 => if x29 = true then (some false) else (trystlaw11_Same.l0 k (x300001.length : Int) 0 x300000 x300001 x300002 x301000 x301001 x301002)
def trystlaw11_Same.l0 : Nat → Int → Int → ByteArray → List (S53) → List (S25) → ByteArray → List (S53) → List (S25) → Option (Bool)
 | 0, _, _, _, _, _, _, _, _ => none
 | k + 1, x32, x33, x300000, x300001, x300002, x301000, x301001, x301002 => if x33 < x32 then (if 0 ≤ x33 then (if x33 < (x300001.length : Int) then (if x33 < (x301001.length : Int) then ((trystlaw10_Same.f k ((rd_T53 x300001 x33).f0) ((rd_T53 x300001 x33).f1) ((rd_T53 x300001 x33).f2) ((rd_T53 x301001 x33).f0) ((rd_T53 x301001 x33).f1) ((rd_T53 x301001 x33).f2)).bind fun t303 => (if t303 = true then (trystlaw11_Same.l0 k x32 (wrap64 (x33 + 1)) x300000 x300001 x300002 x301000 x301001 x301002) else (some false))) else (none)) else (none)) else (none)) else (trystlaw11_Same.l1 k (x300002.length : Int) 0 x300000 x300001 x300002 x301000 x301001 x301002)
def trystlaw11_Same.l1 : Nat → Int → Int → ByteArray → List (S53) → List (S25) → ByteArray → List (S53) → List (S25) → Option (Bool)
 | 0, _, _, _, _, _, _, _, _ => none
 | k + 1, x51, x52, x300000, x300001, x300002, x301000, x301001, x301002 => if x52 < x51 then (if 0 ≤ x52 then (if x52 < (x300002.length : Int) then (if x52 < (x301002.length : Int) then ((trystlaw11_Same.f k ((rd_T25 x300002 x52).f0) ((rd_T25 x300002 x52).f1) ((rd_T25 x300002 x52).f2) ((rd_T25 x301002 x52).f0) ((rd_T25 x301002 x52).f1) ((rd_T25 x301002 x52).f2)).bind fun t306 => (if t306 = true then (trystlaw11_Same.l1 k x51 (wrap64 (x52 + 1)) x300000 x300001 x300002 x301000 x301001 x301002) else (some false))) else (none)) else (none)) else (none)) else (some true)
def trystlaw11_Same.f : Nat → ByteArray → List (S53) → List (S25) → ByteArray → List (S53) → List (S25) → Option (Bool)
 | 0, _, _, _, _, _, _ => none
 | k + 1, a0_0, l0_1, l0_2, a1_0, l1_1, l1_2 => if a0_0.toList = a1_0.toList then (if (l0_1.length : Int) = (l1_1.length : Int) then (trystlaw11_Same.j0 k ((l0_2.length : Int) != (l1_2.length : Int)) a0_0 l0_1 l0_2 a1_0 l1_1 l1_2) else (trystlaw11_Same.j0 k true a0_0 l0_1 l0_2 a1_0 l1_1 l1_2)) else (trystlaw11_Same.j0 k true a0_0 l0_1 l0_2 a1_0 l1_1 l1_2)
end
def trystlaw11_Same.T6 : Bool × List (List Nat × List Nat) := (true, [([], []), ([0], [0]), ([], []), ([1, 2], [1, 2]), ([3], [3]), ([], []), ([5], [5]), ([], []), ([6, 7], [6, 7]), ([8], [8]), ([4, 9], [4, 9]), ([10], [10])])
def trystlaw11_Same.B6 : List Nat := [0, 1, 0, 7, 15, 0, 32, 0, 224, 480, 1023, 2047]
theorem trystlaw11_Same.tab6 : rtab .any (opsOf Tryz.f16 6) = trystlaw11_Same.T6 := by kernel_rfl
theorem trystlaw11_Same.bits6 : waitsOk trystlaw11_Same.T6.2 trystlaw11_Same.B6 = true := by kernel_rfl
def trystlaw11_Same.T12 : Bool × List (List Nat × List Nat) := (true, [([], []), ([0], [0]), ([], []), ([1, 2], [1, 2]), ([3], [3]), ([], []), ([5], [5]), ([], []), ([6, 7], [6, 7]), ([8], [8]), ([4, 9], [4, 9]), ([10], [10])])
def trystlaw11_Same.B12 : List Nat := [0, 1, 0, 7, 15, 0, 32, 0, 224, 480, 1023, 2047]
theorem trystlaw11_Same.tab12 : rtab .any (opsOf Tryz.f16 12) = trystlaw11_Same.T12 := by kernel_rfl
theorem trystlaw11_Same.bits12 : waitsOk trystlaw11_Same.T12.2 trystlaw11_Same.B12 = true := by kernel_rfl
set_option maxHeartbeats 8000000 in
set_option maxRecDepth 100000 in
theorem trystlaw11_Same.calls (k : Nat) : ∀ (a0_0 : ByteArray) (A0_1 : Option Addr) (c0_1 : Nat) (l0_1 : List (S53)) (A0_2 : Option Addr) (c0_2 : Nat) (l0_2 : List (S25)) (a1_0 : ByteArray) (A1_1 : Option Addr) (c1_1 : Nat) (l1_1 : List (S53)) (A1_2 : Option Addr) (c1_2 : Nat) (l1_2 : List (S25)) (r : Bool) (w : World) (hG : GG w) (hr0_1 : Kd.C k53 w A0_1 l0_1.length l0_1) (hc0_1 : l0_1.length ≤ c0_1) (hr0_2 : Kd.C k25 w A0_2 l0_2.length l0_2) (hc0_2 : l0_2.length ≤ c0_2) (hr1_1 : Kd.C k53 w A1_1 l1_1.length l1_1) (hc1_1 : l1_1.length ≤ c1_1) (hr1_2 : Kd.C k25 w A1_2 l1_2.length l1_2) (hc1_2 : l1_2.length ≤ c1_2) (h : trystlaw11_Same.f k a0_0 l0_1 l0_2 a1_0 l1_1 l1_2 = some r),
  Calls Tryz.prog 16 #[.agg #[.string a0_0, .slice A0_1 l0_1.length c0_1, .slice A0_2 l0_2.length c0_2], .agg #[.string a1_0, .slice A1_1 l1_1.length c1_1, .slice A1_2 l1_2.length c1_2]] w fun e w' => e = .returned (.bool r) ∧ Below w.heap.size w w' := by
 induction k using Nat.strongRecOn with
 | _ k ih =>
 intro a0_0 A0_1 c0_1 l0_1 A0_2 c0_2 l0_2 a1_0 A1_1 c1_1 l1_1 A1_2 c1_2 l1_2 r w hG hr0_1 hc0_1 hr0_2 hc0_2 hr1_1 hc1_1 hr1_2 hc1_2 h
 cases k with
 | zero => exact absurd h (by simp [trystlaw11_Same.f])
 | succ k =>
 simp only [trystlaw11_Same.f] at h; have hu25 := Tryz.underlying25; have hu53 := Tryz.underlying53; have HR0_1 := Aside0.mk hr0_1; have HC0_1 := Aside0.mk hc0_1; clear hr0_1 hc0_1; have HR0_2 := Aside0.mk hr0_2; have HC0_2 := Aside0.mk hc0_2; clear hr0_2 hc0_2; have HR1_1 := Aside0.mk hr1_1; have HC1_1 := Aside0.mk hc1_1; clear hr1_1 hc1_1; have HR1_2 := Aside0.mk hr1_2; have HC1_2 := Aside0.mk hc1_2; clear hr1_2 hc1_2; have HB := Aside0.mk (Below.refl w.heap.size w); have H : (if a0_0.toList = a1_0.toList then (if (l0_1.length : Int) = (l1_1.length : Int) then (trystlaw11_Same.j0 k ((l0_2.length : Int) != (l1_2.length : Int)) a0_0 l0_1 l0_2 a1_0 l1_1 l1_2) else (trystlaw11_Same.j0 k true a0_0 l0_1 l0_2 a1_0 l1_1 l1_2)) else (trystlaw11_Same.j0 k true a0_0 l0_1 l0_2 a1_0 l1_1 l1_2)) = some r := h; clear h; have HC3 := Aside0.mk H; clear H
 go_enter Tryz.func16, Tryz.ntmps16
 go_upto_region 1 with (first | ((with_reducible refine gate_dst (N := 2) rfl ?_); (try (refine gate_guard (by rfl) ?_; dsimp only)); refine zbox (N := 2) #[.string a0_0, .slice A0_1 l0_1.length c0_1, .slice A0_2 l0_2.length c0_2] 25 (fun gb299 hg w4 hbox hb => ?_); replace BK299 := Aside0.mk hbox; replace GE299 := zg w hg; replace HB := zw hb; clear hb hbox hg) | ((with_reducible refine gate_dst (N := 3) rfl ?_); (try (refine gate_guard (by rfl) ?_; dsimp only)); refine zbox (N := 3) #[.string a1_0, .slice A1_1 l1_1.length c1_1, .slice A1_2 l1_2.length c1_2] 25 (fun gb300 hg w5 hbox hb => ?_); replace BK300 := Aside0.mk hbox; replace GE300 := zg w hg; replace HB := zw hb; replace NB299_300 := zn BK299 hg; replace NB300_299 := zm BK299 hg; replace BK299 := zb BK299 hb; clear hb hbox hg))
 (try simp only [Act.put, List.setIfInBounds_toArray, List.set_cons_zero, List.set_cons_succ])
 go_cut [29] (fun v29 wc => ∃ (kq : Nat) (x29_2 : Bool), v29 = .bool x29_2 ∧ Aside0 (trystlaw11_Same.j0 kq x29_2 a0_0 l0_1 l0_2 a1_0 l1_1 l1_2 = some r) ∧ Aside0 (kq ≤ k) ∧ Aside0 (wc.heap[gb299]? = some (.cells #[.string a0_0, (.slice A0_1 l0_1.length c0_1), (.slice A0_2 l0_2.length c0_2)] 25 (0, 0))) ∧ Aside0 (wc.heap[gb300]? = some (.cells #[.string a1_0, (.slice A1_1 l1_1.length c1_1), (.slice A1_2 l1_2.length c1_2)] 25 (0, 0))) ∧ Aside0 (Below w.heap.size w wc))
 case first =>
  have H := HC3.out; clear HC3; replace H := zIe H; rcases H with ⟨-, c6b0, c6b1, H⟩ | ⟨c6, c6b0, c6b1, H⟩
  ·(first | rw [c6b0] | (simp only [i64_w, i32_w]; rw [c6b0]) | skip)
   replace H := zIe H; rcases H with ⟨c7, c7b0, c7b1, H⟩ | ⟨c7, c7b0, c7b1, H⟩
   ·have c7b2 : (l0_1.length == l1_1.length) = true := by first | simpa using c7 | (simp at c7 ⊢; omega)
    clear c7; have H' := Aside0.mk H; clear H; have hnb8 := NB299_300.out; have hnc8 := NB300_299.out; obtain ⟨hcz9_0, hcz9_1, hcz9_2, hfz9_0, hfz9_1, hfz9_2⟩ := zk3 BK299; have hcz10_0 := zc0 BK300; have hcz10_1 := zc1 BK300; have hcz10_2 := zc2 BK300
    have hfz10_0 := zf BK300 0; have hfz10_1 := zf BK300 1; have hfz10_2 := zf BK300 2; go_wp2
    go_meet
    case rel => exact ⟨_, (((l0_2.length : Int) != (l1_2.length : Int))), zS, H', ⟨by first | omega | exact Nat.le_refl _⟩, ⟨blk_below BK299.out zX⟩, ⟨blk_below BK300.out zX⟩, ⟨zB⟩⟩
   ·have c7b2 : (l0_1.length == l1_1.length) = false := by first | simpa using c7 | (simp at c7 ⊢; omega)
    have H' := Aside0.mk H; clear H; have hnb11 := NB299_300.out; have hnc11 := NB300_299.out; obtain ⟨hcz12_0, hcz12_1, hcz12_2, hfz12_0, hfz12_1, hfz12_2⟩ := zk3 BK299; have hcz13_0 := zc0 BK300; have hcz13_1 := zc1 BK300; have hcz13_2 := zc2 BK300
    have hfz13_0 := zf BK300 0; have hfz13_1 := zf BK300 1; have hfz13_2 := zf BK300 2; go_wp2
    go_meet
    case rel => exact ⟨_, (true), zS, H', ⟨by first | omega | exact Nat.le_refl _⟩, ⟨blk_below BK299.out zX⟩, ⟨blk_below BK300.out zX⟩, ⟨zB⟩⟩
  ·(first | rw [c6b0] | (simp only [i64_w, i32_w]; rw [c6b0]) | skip)
   have H' := Aside0.mk H; clear H; have hnb14 := NB299_300.out; have hnc14 := NB300_299.out; obtain ⟨hcz15_0, hcz15_1, hcz15_2, hfz15_0, hfz15_1, hfz15_2⟩ := zk3 BK299; have hcz16_0 := zc0 BK300; have hcz16_1 := zc1 BK300; have hcz16_2 := zc2 BK300
   have hfz16_0 := zf BK300 0; have hfz16_1 := zf BK300 1; have hfz16_2 := zf BK300 2; go_wp2
   go_meet
   case rel => exact ⟨_, (true), zS, H', ⟨by first | omega | exact Nat.le_refl _⟩, ⟨blk_below BK299.out zX⟩, ⟨blk_below BK300.out zX⟩, ⟨zB⟩⟩
 case rest =>
  clear HC3; obtain ⟨kq, x29_2, rfl, HA, HJ2, BK299, BK300, HB⟩ := hcut
  cases kq with
  | zero => exact absurd HA.out (by simp [trystlaw11_Same.j0])
  | succ kj2 =>
   have H := HA.out; clear HA; simp only [trystlaw11_Same.j0] at H; replace H := zIb H; rcases H with ⟨rfl, H⟩ | ⟨rfl, H⟩
   ·obtain rfl := Option.some.inj H; go_wp2; go_ret; exact ⟨zE, zB⟩
   ·have H' := Aside0.mk H; clear H; have hnb18 := NB299_300.out; have hnc18 := NB300_299.out; obtain ⟨hcz19_0, hcz19_1, hcz19_2, hfz19_0, hfz19_1, hfz19_2⟩ := zk3 BK299; go_wp2
    go_loopg [33] kj2 (fun kq v33 w' => ∃ (x33_2 : Int), v33 = .int .i64 x33_2 ∧ Aside0 (trystlaw11_Same.l0 kq (l0_1.length : Int) x33_2 a0_0 l0_1 l0_2 a1_0 l1_1 l1_2 = some r) ∧ Aside0 (kq ≤ kj2) ∧ Aside0 (w'.heap[gb299]? = some (.cells #[.string a0_0, (.slice A0_1 l0_1.length c0_1), (.slice A0_2 l0_2.length c0_2)] 25 (0, 0))) ∧ Aside0 (w'.heap[gb300]? = some (.cells #[.string a1_0, (.slice A1_1 l1_1.length c1_1), (.slice A1_2 l1_2.length c1_2)] 25 (0, 0))) ∧ Aside0 (Below w.heap.size w w'))
    case atStart => exact ⟨(0), zS, H', ⟨Nat.le_refl _⟩, ⟨blk_below BK299.out zX⟩, ⟨blk_below BK300.out zX⟩, ⟨zB⟩⟩
    case round =>
     clear H'; clear hcz19_0 hcz19_1 hcz19_2 hfz19_0 hfz19_1 hfz19_2; obtain ⟨x33_2, rfl, HA, HK2, BK299, BK300, HB⟩ := hrel
     cases gk with
     | zero => exact absurd HA.out (by simp [trystlaw11_Same.l0])
     | succ k2 =>
      have H := HA.out; clear HA; simp only [trystlaw11_Same.l0] at H; replace H := zId H; rcases H with ⟨-, c20b0, H⟩ | ⟨-, c20b0, H⟩
      ·replace H := zJJ H; obtain ⟨c21b0, c22b0, H⟩ := H; replace H := zJd H; obtain ⟨-, c23b0, H⟩ := H; replace H := zO H; obtain ⟨t303, A24, H⟩ := H; replace H := zIb H; rcases H with ⟨rfl, H⟩ | ⟨rfl, H⟩
       ·have H' := Aside0.mk H; clear H
        try go_wp2
        replace BK299 := Aside0.mk (blk_drew BK299.out); replace BK300 := Aside0.mk (blk_drew BK300.out); replace HB := Aside0.mk (below_drew1 HB.out); have p301 := zQ (0 ≤ (x33_2 : Int)); have q301 := zQ (x33_2 < (l0_1.length : Int)); obtain ⟨ad301, A301_1, c301_1, e301, hx301_0, hx301_1, hx301_2, hl301_1, hi301_1⟩ := at_T53 HR0_1.out x33_2 p301 q301; have hw301_2 := hx301_2; have hw301_1 := hx301_1; have hw301_0 := hx301_0
        cases e301
        replace hx301_0 := zx HB hx301_0; replace hx301_1 := zx HB hx301_1; replace hx301_2 := zx HB hx301_2; have HR301_1 := Aside0.mk hi301_1; have HC301_1 := Aside0.mk hl301_1; clear hi301_1 hl301_1; replace p301 := eq_true p301; replace q301 := eq_true q301; have p302 := zQ (0 ≤ (x33_2 : Int)); have q302 := zQ (x33_2 < (l1_1.length : Int)); obtain ⟨ad302, A302_1, c302_1, e302, hx302_0, hx302_1, hx302_2, hl302_1, hi302_1⟩ := at_T53 HR1_1.out x33_2 p302 q302; have hw302_2 := hx302_2; have hw302_1 := hx302_1; have hw302_0 := hx302_0
        cases e302
        replace hx302_0 := zx HB hx302_0; replace hx302_1 := zx HB hx302_1; replace hx302_2 := zx HB hx302_2; have HR302_1 := Aside0.mk hi302_1; have HC302_1 := Aside0.mk hl302_1; clear hi302_1 hl302_1; replace p302 := eq_true p302; replace q302 := eq_true q302
        refine start_ (n := 12) (S := fun w' => w'.cell? ⟨gb299, 0, none⟩ = some (.string a0_0) ∧ w'.cell? ⟨gb299, 1, none⟩ = some (.slice (some ad301) l0_1.length c0_1) ∧ w'.cell? ⟨gb299, 2, none⟩ = some (.slice A0_2 l0_2.length c0_2) ∧ w'.cell? ⟨gb300, 0, none⟩ = some (.string a1_0) ∧ w'.cell? ⟨gb300, 1, none⟩ = some (.slice (some ad302) l1_1.length c1_1) ∧ w'.cell? ⟨gb300, 2, none⟩ = some (.slice A1_2 l1_2.length c1_2) ∧ w'.cell? (ad301.add ((x33_2).toNat * 3)) = some (.string ((rd_T53 l0_1 x33_2).f0)) ∧ w'.cell? ⟨(ad301.add ((x33_2).toNat * 3)).block, (ad301.add ((x33_2).toNat * 3)).off + 1, none⟩ = some (.slice A301_1 ((rd_T53 l0_1 x33_2).f1).length c301_1) ∧ w'.cell? ⟨(ad301.add ((x33_2).toNat * 3)).block, (ad301.add ((x33_2).toNat * 3)).off + 2, none⟩ = some (.string ((rd_T53 l0_1 x33_2).f2)) ∧ w'.cell? (ad302.add ((x33_2).toNat * 3)) = some (.string ((rd_T53 l1_1 x33_2).f0)) ∧ w'.cell? ⟨(ad302.add ((x33_2).toNat * 3)).block, (ad302.add ((x33_2).toNat * 3)).off + 1, none⟩ = some (.slice A302_1 ((rd_T53 l1_1 x33_2).f1).length c302_1) ∧ w'.cell? ⟨(ad302.add ((x33_2).toNat * 3)).block, (ad302.add ((x33_2).toNat * 3)).off + 2, none⟩ = some (.string ((rd_T53 l1_1 x33_2).f2))) (ds := []) (bs 12 0) (by kernel_rfl) rfl rfl ⟨(blk_cell BK299.out 0).trans rfl, (blk_cell BK299.out 1).trans rfl, (blk_cell BK299.out 2).trans rfl, (blk_cell BK300.out 0).trans rfl, (blk_cell BK300.out 1).trans rfl, (blk_cell BK300.out 2).trans rfl, (zx HB hw301_0), (zx HB hw301_1), (zx HB hw301_2), (zx HB hw302_0), (zx HB hw302_1), (zx HB hw302_2)⟩ (fun hHeld => ?_); refine with_tabW trystlaw11_Same.tab6 trystlaw11_Same.bits6 (fun HT_ HW_ => ?_)
        generalize wr.drew = w26 at BK299 BK300 HB HR301_1 HR302_1 hx301_0 hx301_1 hx301_2 hx302_0 hx302_1 hx302_2 hHeld ⊢; refine zp 0 36 (bs 12 1) ?_; refine zp 2 38 (bs 12 5) ?_; refine zp 5 41 (bs 12 37) ?_; refine zp 7 43 (bs 12 165) ?_; refine zt 1 37 (bs 12 167) ?_; refine zp 3 39 (bs 12 175) ?_; refine zt 4 40 (bs 12 191) ?_; refine zt 6 42 (bs 12 255) ?_; refine zp 8 44 (bs 12 511) ?_; refine zt 9 45 (bs 12 1023) ?_; refine one_ (i := 10) (N := some 46) (bs 12 2047) rfl rfl (one_of HT_.out (by kernel_rfl)) (by decide) (fun K hK => ?_); refine goes_ Tryz.func30 (by kernel_rfl) rfl #[.agg #[.string ((rd_T53 l0_1 x33_2).f0), .slice A301_1 ((rd_T53 l0_1 x33_2).f1).length c301_1, .string ((rd_T53 l0_1 x33_2).f2)], .agg #[.string ((rd_T53 l1_1 x33_2).f0), .slice A302_1 ((rd_T53 l1_1 x33_2).f1).length c302_1, .string ((rd_T53 l1_1 x33_2).f2)]] (by rfl) rfl rfl zA ?_
        with_reducible refine (trystlaw10_Same.calls k2 ((rd_T53 l0_1 x33_2).f0) _ _ ((rd_T53 l0_1 x33_2).f1) ((rd_T53 l0_1 x33_2).f2) ((rd_T53 l1_1 x33_2).f0) _ _ ((rd_T53 l1_1 x33_2).f1) ((rd_T53 l1_1 x33_2).f2) true _ zG ?side1 ?side2 ?side3 ?side4 A24.out).mono ?_
        (case side1 => exact Kd.C_below (Kd.C_below HR301_1.out HB.out) zX)
        (case side2 => exact HC301_1.out)
        (case side3 => exact Kd.C_below (Kd.C_below HR302_1.out HB.out) zX)
        (case side4 => exact HC302_1.out)
        rintro e w27 ⟨rfl, hb⟩; refine ⟨_, rfl, ?_⟩; replace BK299 := zb BK299 hb; replace BK300 := zb BK300 hb; replace HB := zw hb; clear hb; (try clear hb2); (try clear hk); (try clear hi)
        refine hK.out _ _ ⟨(blk_cell BK299.out 0).trans rfl, (blk_cell BK299.out 1).trans rfl, (blk_cell BK299.out 2).trans rfl, (blk_cell BK300.out 0).trans rfl, (blk_cell BK300.out 1).trans rfl, (blk_cell BK300.out 2).trans rfl, (zx HB hw301_0), (zx HB hw301_1), (zx HB hw301_2), (zx HB hw302_0), (zx HB hw302_1), (zx HB hw302_2)⟩ (fun hHeld => ?_); clear hK K; refine zr ?_; refine zp 11 47 (bs 12 4095) ?_; refine done_ (done_of HT_.out (by kernel_rfl)) ?_
        try go_wp2
        go_roundg k2
        case measure => have := HJ2.out; have := HK2.out; omega
        case rel => exact ⟨(wrap64 (x33_2 + 1)), zS, H', ⟨by have := HJ2.out; have := HK2.out; omega⟩, ⟨blk_below BK299.out zX⟩, ⟨blk_below BK300.out zX⟩, ⟨zB⟩⟩
       ·obtain rfl := Option.some.inj H
        try go_wp2
        replace BK299 := Aside0.mk (blk_drew BK299.out); replace BK300 := Aside0.mk (blk_drew BK300.out); replace HB := Aside0.mk (below_drew1 HB.out); have p301 := zQ (0 ≤ (x33_2 : Int)); have q301 := zQ (x33_2 < (l0_1.length : Int)); obtain ⟨ad301, A301_1, c301_1, e301, hx301_0, hx301_1, hx301_2, hl301_1, hi301_1⟩ := at_T53 HR0_1.out x33_2 p301 q301; have hw301_2 := hx301_2; have hw301_1 := hx301_1; have hw301_0 := hx301_0
        cases e301
        replace hx301_0 := zx HB hx301_0; replace hx301_1 := zx HB hx301_1; replace hx301_2 := zx HB hx301_2; have HR301_1 := Aside0.mk hi301_1; have HC301_1 := Aside0.mk hl301_1; clear hi301_1 hl301_1; replace p301 := eq_true p301; replace q301 := eq_true q301; have p302 := zQ (0 ≤ (x33_2 : Int)); have q302 := zQ (x33_2 < (l1_1.length : Int)); obtain ⟨ad302, A302_1, c302_1, e302, hx302_0, hx302_1, hx302_2, hl302_1, hi302_1⟩ := at_T53 HR1_1.out x33_2 p302 q302; have hw302_2 := hx302_2; have hw302_1 := hx302_1; have hw302_0 := hx302_0
        cases e302
        replace hx302_0 := zx HB hx302_0; replace hx302_1 := zx HB hx302_1; replace hx302_2 := zx HB hx302_2; have HR302_1 := Aside0.mk hi302_1; have HC302_1 := Aside0.mk hl302_1; clear hi302_1 hl302_1; replace p302 := eq_true p302; replace q302 := eq_true q302
        refine start_ (n := 12) (S := fun w' => w'.cell? ⟨gb299, 0, none⟩ = some (.string a0_0) ∧ w'.cell? ⟨gb299, 1, none⟩ = some (.slice (some ad301) l0_1.length c0_1) ∧ w'.cell? ⟨gb299, 2, none⟩ = some (.slice A0_2 l0_2.length c0_2) ∧ w'.cell? ⟨gb300, 0, none⟩ = some (.string a1_0) ∧ w'.cell? ⟨gb300, 1, none⟩ = some (.slice (some ad302) l1_1.length c1_1) ∧ w'.cell? ⟨gb300, 2, none⟩ = some (.slice A1_2 l1_2.length c1_2) ∧ w'.cell? (ad301.add ((x33_2).toNat * 3)) = some (.string ((rd_T53 l0_1 x33_2).f0)) ∧ w'.cell? ⟨(ad301.add ((x33_2).toNat * 3)).block, (ad301.add ((x33_2).toNat * 3)).off + 1, none⟩ = some (.slice A301_1 ((rd_T53 l0_1 x33_2).f1).length c301_1) ∧ w'.cell? ⟨(ad301.add ((x33_2).toNat * 3)).block, (ad301.add ((x33_2).toNat * 3)).off + 2, none⟩ = some (.string ((rd_T53 l0_1 x33_2).f2)) ∧ w'.cell? (ad302.add ((x33_2).toNat * 3)) = some (.string ((rd_T53 l1_1 x33_2).f0)) ∧ w'.cell? ⟨(ad302.add ((x33_2).toNat * 3)).block, (ad302.add ((x33_2).toNat * 3)).off + 1, none⟩ = some (.slice A302_1 ((rd_T53 l1_1 x33_2).f1).length c302_1) ∧ w'.cell? ⟨(ad302.add ((x33_2).toNat * 3)).block, (ad302.add ((x33_2).toNat * 3)).off + 2, none⟩ = some (.string ((rd_T53 l1_1 x33_2).f2))) (ds := []) (bs 12 0) (by kernel_rfl) rfl rfl ⟨(blk_cell BK299.out 0).trans rfl, (blk_cell BK299.out 1).trans rfl, (blk_cell BK299.out 2).trans rfl, (blk_cell BK300.out 0).trans rfl, (blk_cell BK300.out 1).trans rfl, (blk_cell BK300.out 2).trans rfl, (zx HB hw301_0), (zx HB hw301_1), (zx HB hw301_2), (zx HB hw302_0), (zx HB hw302_1), (zx HB hw302_2)⟩ (fun hHeld => ?_); refine with_tabW trystlaw11_Same.tab6 trystlaw11_Same.bits6 (fun HT_ HW_ => ?_)
        generalize wr.drew = w28 at BK299 BK300 HB HR301_1 HR302_1 hx301_0 hx301_1 hx301_2 hx302_0 hx302_1 hx302_2 hHeld ⊢; refine zp 0 36 (bs 12 1) ?_; refine zp 2 38 (bs 12 5) ?_; refine zp 5 41 (bs 12 37) ?_; refine zp 7 43 (bs 12 165) ?_; refine zt 1 37 (bs 12 167) ?_; refine zp 3 39 (bs 12 175) ?_; refine zt 4 40 (bs 12 191) ?_; refine zt 6 42 (bs 12 255) ?_; refine zp 8 44 (bs 12 511) ?_; refine zt 9 45 (bs 12 1023) ?_; refine one_ (i := 10) (N := some 46) (bs 12 2047) rfl rfl (one_of HT_.out (by kernel_rfl)) (by decide) (fun K hK => ?_); refine goes_ Tryz.func30 (by kernel_rfl) rfl #[.agg #[.string ((rd_T53 l0_1 x33_2).f0), .slice A301_1 ((rd_T53 l0_1 x33_2).f1).length c301_1, .string ((rd_T53 l0_1 x33_2).f2)], .agg #[.string ((rd_T53 l1_1 x33_2).f0), .slice A302_1 ((rd_T53 l1_1 x33_2).f1).length c302_1, .string ((rd_T53 l1_1 x33_2).f2)]] (by rfl) rfl rfl zA ?_
        with_reducible refine (trystlaw10_Same.calls k2 ((rd_T53 l0_1 x33_2).f0) _ _ ((rd_T53 l0_1 x33_2).f1) ((rd_T53 l0_1 x33_2).f2) ((rd_T53 l1_1 x33_2).f0) _ _ ((rd_T53 l1_1 x33_2).f1) ((rd_T53 l1_1 x33_2).f2) false _ zG ?side1 ?side2 ?side3 ?side4 A24.out).mono ?_
        (case side1 => exact Kd.C_below (Kd.C_below HR301_1.out HB.out) zX)
        (case side2 => exact HC301_1.out)
        (case side3 => exact Kd.C_below (Kd.C_below HR302_1.out HB.out) zX)
        (case side4 => exact HC302_1.out)
        rintro e w29 ⟨rfl, hb⟩; refine ⟨_, rfl, ?_⟩; replace BK299 := zb BK299 hb; replace BK300 := zb BK300 hb; replace HB := zw hb; clear hb; (try clear hb2); (try clear hk); (try clear hi)
        refine hK.out _ _ ⟨(blk_cell BK299.out 0).trans rfl, (blk_cell BK299.out 1).trans rfl, (blk_cell BK299.out 2).trans rfl, (blk_cell BK300.out 0).trans rfl, (blk_cell BK300.out 1).trans rfl, (blk_cell BK300.out 2).trans rfl, (zx HB hw301_0), (zx HB hw301_1), (zx HB hw301_2), (zx HB hw302_0), (zx HB hw302_1), (zx HB hw302_2)⟩ (fun hHeld => ?_); clear hK K; refine zr ?_; refine zp 11 47 (bs 12 4095) ?_; refine done_ (done_of HT_.out (by kernel_rfl)) ?_
        try go_wp2
        go_ret; exact ⟨zE, zB⟩
      ·have H' := Aside0.mk H; clear H; have hnb30 := NB299_300.out; have hnc30 := NB300_299.out; obtain ⟨hcz31_0, hcz31_1, hcz31_2, hfz31_0, hfz31_1, hfz31_2⟩ := zk3 BK299; go_wp2
       go_loopg [52] k2 (fun kq v52 w' => ∃ (x52_3 : Int), v52 = .int .i64 x52_3 ∧ Aside0 (trystlaw11_Same.l1 kq (l0_2.length : Int) x52_3 a0_0 l0_1 l0_2 a1_0 l1_1 l1_2 = some r) ∧ Aside0 (kq ≤ k2) ∧ Aside0 (w'.heap[gb299]? = some (.cells #[.string a0_0, (.slice A0_1 l0_1.length c0_1), (.slice A0_2 l0_2.length c0_2)] 25 (0, 0))) ∧ Aside0 (w'.heap[gb300]? = some (.cells #[.string a1_0, (.slice A1_1 l1_1.length c1_1), (.slice A1_2 l1_2.length c1_2)] 25 (0, 0))) ∧ Aside0 (Below w.heap.size w w'))
       case atStart => exact ⟨(0), zS, H', ⟨Nat.le_refl _⟩, ⟨blk_below BK299.out zX⟩, ⟨blk_below BK300.out zX⟩, ⟨zB⟩⟩
       case round =>
        clear H'; clear c20b0 hcz31_0 hcz31_1 hcz31_2 hfz31_0 hfz31_1 hfz31_2; obtain ⟨x52_3, rfl, HA, HK3, BK299, BK300, HB⟩ := hrel
        cases gk with
        | zero => exact absurd HA.out (by simp [trystlaw11_Same.l1])
        | succ k3 =>
         have H := HA.out; clear HA; simp only [trystlaw11_Same.l1] at H; replace H := zId H; rcases H with ⟨-, c32b0, H⟩ | ⟨-, c32b0, H⟩
         ·replace H := zJJ H; obtain ⟨c33b0, c34b0, H⟩ := H; replace H := zJd H; obtain ⟨-, c35b0, H⟩ := H; replace H := zO H; obtain ⟨t306, A36, H⟩ := H; replace H := zIb H; rcases H with ⟨rfl, H⟩ | ⟨rfl, H⟩
          ·have H' := Aside0.mk H; clear H
           try go_wp2
           replace BK299 := Aside0.mk (blk_drew BK299.out); replace BK300 := Aside0.mk (blk_drew BK300.out); replace HB := Aside0.mk (below_drew1 HB.out); have p304 := zQ (0 ≤ (x52_3 : Int)); have q304 := zQ (x52_3 < (l0_2.length : Int)); obtain ⟨ad304, A304_1, c304_1, A304_2, c304_2, e304, hx304_0, hx304_1, hx304_2, hl304_1, hi304_1, hl304_2, hi304_2⟩ := at_T25 HR0_2.out x52_3 p304 q304; have hw304_2 := hx304_2; have hw304_1 := hx304_1; have hw304_0 := hx304_0
           cases e304
           replace hx304_0 := zx HB hx304_0; replace hx304_1 := zx HB hx304_1; replace hx304_2 := zx HB hx304_2; have HR304_1 := Aside0.mk hi304_1; have HC304_1 := Aside0.mk hl304_1; clear hi304_1 hl304_1; have HR304_2 := Aside0.mk hi304_2; have HC304_2 := Aside0.mk hl304_2; clear hi304_2 hl304_2; replace p304 := eq_true p304; replace q304 := eq_true q304; have p305 := zQ (0 ≤ (x52_3 : Int)); have q305 := zQ (x52_3 < (l1_2.length : Int)); obtain ⟨ad305, A305_1, c305_1, A305_2, c305_2, e305, hx305_0, hx305_1, hx305_2, hl305_1, hi305_1, hl305_2, hi305_2⟩ := at_T25 HR1_2.out x52_3 p305 q305; have hw305_2 := hx305_2; have hw305_1 := hx305_1; have hw305_0 := hx305_0
           cases e305
           replace hx305_0 := zx HB hx305_0; replace hx305_1 := zx HB hx305_1; replace hx305_2 := zx HB hx305_2; have HR305_1 := Aside0.mk hi305_1; have HC305_1 := Aside0.mk hl305_1; clear hi305_1 hl305_1; have HR305_2 := Aside0.mk hi305_2; have HC305_2 := Aside0.mk hl305_2; clear hi305_2 hl305_2; replace p305 := eq_true p305; replace q305 := eq_true q305
           refine start_ (n := 12) (S := fun w' => w'.cell? ⟨gb299, 0, none⟩ = some (.string a0_0) ∧ w'.cell? ⟨gb299, 1, none⟩ = some (.slice A0_1 l0_1.length c0_1) ∧ w'.cell? ⟨gb299, 2, none⟩ = some (.slice (some ad304) l0_2.length c0_2) ∧ w'.cell? ⟨gb300, 0, none⟩ = some (.string a1_0) ∧ w'.cell? ⟨gb300, 1, none⟩ = some (.slice A1_1 l1_1.length c1_1) ∧ w'.cell? ⟨gb300, 2, none⟩ = some (.slice (some ad305) l1_2.length c1_2) ∧ w'.cell? (ad304.add ((x52_3).toNat * 3)) = some (.string ((rd_T25 l0_2 x52_3).f0)) ∧ w'.cell? ⟨(ad304.add ((x52_3).toNat * 3)).block, (ad304.add ((x52_3).toNat * 3)).off + 1, none⟩ = some (.slice A304_1 ((rd_T25 l0_2 x52_3).f1).length c304_1) ∧ w'.cell? ⟨(ad304.add ((x52_3).toNat * 3)).block, (ad304.add ((x52_3).toNat * 3)).off + 2, none⟩ = some (.slice A304_2 ((rd_T25 l0_2 x52_3).f2).length c304_2) ∧ w'.cell? (ad305.add ((x52_3).toNat * 3)) = some (.string ((rd_T25 l1_2 x52_3).f0)) ∧ w'.cell? ⟨(ad305.add ((x52_3).toNat * 3)).block, (ad305.add ((x52_3).toNat * 3)).off + 1, none⟩ = some (.slice A305_1 ((rd_T25 l1_2 x52_3).f1).length c305_1) ∧ w'.cell? ⟨(ad305.add ((x52_3).toNat * 3)).block, (ad305.add ((x52_3).toNat * 3)).off + 2, none⟩ = some (.slice A305_2 ((rd_T25 l1_2 x52_3).f2).length c305_2)) (ds := []) (bs 12 0) (by kernel_rfl) rfl rfl ⟨(blk_cell BK299.out 0).trans rfl, (blk_cell BK299.out 1).trans rfl, (blk_cell BK299.out 2).trans rfl, (blk_cell BK300.out 0).trans rfl, (blk_cell BK300.out 1).trans rfl, (blk_cell BK300.out 2).trans rfl, (zx HB hw304_0), (zx HB hw304_1), (zx HB hw304_2), (zx HB hw305_0), (zx HB hw305_1), (zx HB hw305_2)⟩ (fun hHeld => ?_); refine with_tabW trystlaw11_Same.tab12 trystlaw11_Same.bits12 (fun HT_ HW_ => ?_)
           generalize wr.drew = w38 at BK299 BK300 HB HR304_1 HR304_2 HR305_1 HR305_2 hx304_0 hx304_1 hx304_2 hx305_0 hx305_1 hx305_2 hHeld ⊢; refine zp 0 55 (bs 12 1) ?_; refine zp 2 57 (bs 12 5) ?_; refine zp 5 60 (bs 12 37) ?_; refine zp 7 62 (bs 12 165) ?_; refine zt 1 56 (bs 12 167) ?_; refine zp 3 58 (bs 12 175) ?_; refine zt 4 59 (bs 12 191) ?_; refine zt 6 61 (bs 12 255) ?_; refine zp 8 63 (bs 12 511) ?_; refine zt 9 64 (bs 12 1023) ?_; refine one_ (i := 10) (N := some 65) (bs 12 2047) rfl rfl (one_of HT_.out (by kernel_rfl)) (by decide) (fun K hK => ?_)
           refine goes_ Tryz.func16 (by kernel_rfl) rfl #[.agg #[.string ((rd_T25 l0_2 x52_3).f0), .slice A304_1 ((rd_T25 l0_2 x52_3).f1).length c304_1, .slice A304_2 ((rd_T25 l0_2 x52_3).f2).length c304_2], .agg #[.string ((rd_T25 l1_2 x52_3).f0), .slice A305_1 ((rd_T25 l1_2 x52_3).f1).length c305_1, .slice A305_2 ((rd_T25 l1_2 x52_3).f2).length c305_2]] (by rfl) rfl rfl zA ?_
           with_reducible refine (ih k3 (by have := HJ2.out; have := HK2.out; have := HK3.out; omega) ((rd_T25 l0_2 x52_3).f0) _ _ ((rd_T25 l0_2 x52_3).f1) _ _ ((rd_T25 l0_2 x52_3).f2) ((rd_T25 l1_2 x52_3).f0) _ _ ((rd_T25 l1_2 x52_3).f1) _ _ ((rd_T25 l1_2 x52_3).f2) true _ zG ?side1 ?side2 ?side3 ?side4 ?side5 ?side6 ?side7 ?side8 A36.out).mono ?_
           (case side1 => exact Kd.C_below (Kd.C_below HR304_1.out HB.out) zX)
           (case side2 => exact HC304_1.out)
           (case side3 => exact Kd.C_below (Kd.C_below HR304_2.out HB.out) zX)
           (case side4 => exact HC304_2.out)
           (case side5 => exact Kd.C_below (Kd.C_below HR305_1.out HB.out) zX)
           (case side6 => exact HC305_1.out)
           (case side7 => exact Kd.C_below (Kd.C_below HR305_2.out HB.out) zX)
           (case side8 => exact HC305_2.out)
           rintro e w39 ⟨rfl, hb⟩; refine ⟨_, rfl, ?_⟩; replace BK299 := zb BK299 hb; replace BK300 := zb BK300 hb; replace HB := zw hb; clear hb; (try clear hb2); (try clear hk); (try clear hi)
           refine hK.out _ _ ⟨(blk_cell BK299.out 0).trans rfl, (blk_cell BK299.out 1).trans rfl, (blk_cell BK299.out 2).trans rfl, (blk_cell BK300.out 0).trans rfl, (blk_cell BK300.out 1).trans rfl, (blk_cell BK300.out 2).trans rfl, (zx HB hw304_0), (zx HB hw304_1), (zx HB hw304_2), (zx HB hw305_0), (zx HB hw305_1), (zx HB hw305_2)⟩ (fun hHeld => ?_); clear hK K; refine zr ?_; refine zp 11 66 (bs 12 4095) ?_; refine done_ (done_of HT_.out (by kernel_rfl)) ?_
           try go_wp2
           go_roundg k3
           case measure => have := HJ2.out; have := HK2.out; have := HK3.out; omega
           case rel => exact ⟨(wrap64 (x52_3 + 1)), zS, H', ⟨by have := HJ2.out; have := HK2.out; have := HK3.out; omega⟩, ⟨blk_below BK299.out zX⟩, ⟨blk_below BK300.out zX⟩, ⟨zB⟩⟩
          ·obtain rfl := Option.some.inj H
           try go_wp2
           replace BK299 := Aside0.mk (blk_drew BK299.out); replace BK300 := Aside0.mk (blk_drew BK300.out); replace HB := Aside0.mk (below_drew1 HB.out); have p304 := zQ (0 ≤ (x52_3 : Int)); have q304 := zQ (x52_3 < (l0_2.length : Int)); obtain ⟨ad304, A304_1, c304_1, A304_2, c304_2, e304, hx304_0, hx304_1, hx304_2, hl304_1, hi304_1, hl304_2, hi304_2⟩ := at_T25 HR0_2.out x52_3 p304 q304; have hw304_2 := hx304_2; have hw304_1 := hx304_1; have hw304_0 := hx304_0
           cases e304
           replace hx304_0 := zx HB hx304_0; replace hx304_1 := zx HB hx304_1; replace hx304_2 := zx HB hx304_2; have HR304_1 := Aside0.mk hi304_1; have HC304_1 := Aside0.mk hl304_1; clear hi304_1 hl304_1; have HR304_2 := Aside0.mk hi304_2; have HC304_2 := Aside0.mk hl304_2; clear hi304_2 hl304_2; replace p304 := eq_true p304; replace q304 := eq_true q304; have p305 := zQ (0 ≤ (x52_3 : Int)); have q305 := zQ (x52_3 < (l1_2.length : Int)); obtain ⟨ad305, A305_1, c305_1, A305_2, c305_2, e305, hx305_0, hx305_1, hx305_2, hl305_1, hi305_1, hl305_2, hi305_2⟩ := at_T25 HR1_2.out x52_3 p305 q305; have hw305_2 := hx305_2; have hw305_1 := hx305_1; have hw305_0 := hx305_0
           cases e305
           replace hx305_0 := zx HB hx305_0; replace hx305_1 := zx HB hx305_1; replace hx305_2 := zx HB hx305_2; have HR305_1 := Aside0.mk hi305_1; have HC305_1 := Aside0.mk hl305_1; clear hi305_1 hl305_1; have HR305_2 := Aside0.mk hi305_2; have HC305_2 := Aside0.mk hl305_2; clear hi305_2 hl305_2; replace p305 := eq_true p305; replace q305 := eq_true q305
           refine start_ (n := 12) (S := fun w' => w'.cell? ⟨gb299, 0, none⟩ = some (.string a0_0) ∧ w'.cell? ⟨gb299, 1, none⟩ = some (.slice A0_1 l0_1.length c0_1) ∧ w'.cell? ⟨gb299, 2, none⟩ = some (.slice (some ad304) l0_2.length c0_2) ∧ w'.cell? ⟨gb300, 0, none⟩ = some (.string a1_0) ∧ w'.cell? ⟨gb300, 1, none⟩ = some (.slice A1_1 l1_1.length c1_1) ∧ w'.cell? ⟨gb300, 2, none⟩ = some (.slice (some ad305) l1_2.length c1_2) ∧ w'.cell? (ad304.add ((x52_3).toNat * 3)) = some (.string ((rd_T25 l0_2 x52_3).f0)) ∧ w'.cell? ⟨(ad304.add ((x52_3).toNat * 3)).block, (ad304.add ((x52_3).toNat * 3)).off + 1, none⟩ = some (.slice A304_1 ((rd_T25 l0_2 x52_3).f1).length c304_1) ∧ w'.cell? ⟨(ad304.add ((x52_3).toNat * 3)).block, (ad304.add ((x52_3).toNat * 3)).off + 2, none⟩ = some (.slice A304_2 ((rd_T25 l0_2 x52_3).f2).length c304_2) ∧ w'.cell? (ad305.add ((x52_3).toNat * 3)) = some (.string ((rd_T25 l1_2 x52_3).f0)) ∧ w'.cell? ⟨(ad305.add ((x52_3).toNat * 3)).block, (ad305.add ((x52_3).toNat * 3)).off + 1, none⟩ = some (.slice A305_1 ((rd_T25 l1_2 x52_3).f1).length c305_1) ∧ w'.cell? ⟨(ad305.add ((x52_3).toNat * 3)).block, (ad305.add ((x52_3).toNat * 3)).off + 2, none⟩ = some (.slice A305_2 ((rd_T25 l1_2 x52_3).f2).length c305_2)) (ds := []) (bs 12 0) (by kernel_rfl) rfl rfl ⟨(blk_cell BK299.out 0).trans rfl, (blk_cell BK299.out 1).trans rfl, (blk_cell BK299.out 2).trans rfl, (blk_cell BK300.out 0).trans rfl, (blk_cell BK300.out 1).trans rfl, (blk_cell BK300.out 2).trans rfl, (zx HB hw304_0), (zx HB hw304_1), (zx HB hw304_2), (zx HB hw305_0), (zx HB hw305_1), (zx HB hw305_2)⟩ (fun hHeld => ?_); refine with_tabW trystlaw11_Same.tab12 trystlaw11_Same.bits12 (fun HT_ HW_ => ?_)
           generalize wr.drew = w40 at BK299 BK300 HB HR304_1 HR304_2 HR305_1 HR305_2 hx304_0 hx304_1 hx304_2 hx305_0 hx305_1 hx305_2 hHeld ⊢; refine zp 0 55 (bs 12 1) ?_; refine zp 2 57 (bs 12 5) ?_; refine zp 5 60 (bs 12 37) ?_; refine zp 7 62 (bs 12 165) ?_; refine zt 1 56 (bs 12 167) ?_; refine zp 3 58 (bs 12 175) ?_; refine zt 4 59 (bs 12 191) ?_; refine zt 6 61 (bs 12 255) ?_; refine zp 8 63 (bs 12 511) ?_; refine zt 9 64 (bs 12 1023) ?_; refine one_ (i := 10) (N := some 65) (bs 12 2047) rfl rfl (one_of HT_.out (by kernel_rfl)) (by decide) (fun K hK => ?_)
           refine goes_ Tryz.func16 (by kernel_rfl) rfl #[.agg #[.string ((rd_T25 l0_2 x52_3).f0), .slice A304_1 ((rd_T25 l0_2 x52_3).f1).length c304_1, .slice A304_2 ((rd_T25 l0_2 x52_3).f2).length c304_2], .agg #[.string ((rd_T25 l1_2 x52_3).f0), .slice A305_1 ((rd_T25 l1_2 x52_3).f1).length c305_1, .slice A305_2 ((rd_T25 l1_2 x52_3).f2).length c305_2]] (by rfl) rfl rfl zA ?_
           with_reducible refine (ih k3 (by have := HJ2.out; have := HK2.out; have := HK3.out; omega) ((rd_T25 l0_2 x52_3).f0) _ _ ((rd_T25 l0_2 x52_3).f1) _ _ ((rd_T25 l0_2 x52_3).f2) ((rd_T25 l1_2 x52_3).f0) _ _ ((rd_T25 l1_2 x52_3).f1) _ _ ((rd_T25 l1_2 x52_3).f2) false _ zG ?side1 ?side2 ?side3 ?side4 ?side5 ?side6 ?side7 ?side8 A36.out).mono ?_
           (case side1 => exact Kd.C_below (Kd.C_below HR304_1.out HB.out) zX)
           (case side2 => exact HC304_1.out)
           (case side3 => exact Kd.C_below (Kd.C_below HR304_2.out HB.out) zX)
           (case side4 => exact HC304_2.out)
           (case side5 => exact Kd.C_below (Kd.C_below HR305_1.out HB.out) zX)
           (case side6 => exact HC305_1.out)
           (case side7 => exact Kd.C_below (Kd.C_below HR305_2.out HB.out) zX)
           (case side8 => exact HC305_2.out)
           rintro e w41 ⟨rfl, hb⟩; refine ⟨_, rfl, ?_⟩; replace BK299 := zb BK299 hb; replace BK300 := zb BK300 hb; replace HB := zw hb; clear hb; (try clear hb2); (try clear hk); (try clear hi)
           refine hK.out _ _ ⟨(blk_cell BK299.out 0).trans rfl, (blk_cell BK299.out 1).trans rfl, (blk_cell BK299.out 2).trans rfl, (blk_cell BK300.out 0).trans rfl, (blk_cell BK300.out 1).trans rfl, (blk_cell BK300.out 2).trans rfl, (zx HB hw304_0), (zx HB hw304_1), (zx HB hw304_2), (zx HB hw305_0), (zx HB hw305_1), (zx HB hw305_2)⟩ (fun hHeld => ?_); clear hK K; refine zr ?_; refine zp 11 66 (bs 12 4095) ?_; refine done_ (done_of HT_.out (by kernel_rfl)) ?_
           try go_wp2
           go_ret; exact ⟨zE, zB⟩
         ·obtain rfl := Option.some.inj H; go_wp2; go_ret; exact ⟨zE, zB⟩
end Go.Proofs.YtdojmdbaiddkgaaGreatDoor.Print
end
section
set_option linter.unusedVariables false
set_option linter.unusedSimpArgs false
set_option linter.unusedSectionVars false
namespace Go.Proofs.YtdojmdbaiddkgaaGreatDoor.Pure
open Go.RowKit Go.Proofs.YtdojmdbaiddkgaaGreatDoor.Print Go.Proofs.YtdojmdbaiddkgaaGreatDoorW.PrintWords Go.Proofs.YtdojmdbaiddkgaaGreatDoorW.PrintLast Go.Proofs.YtdojmdbaiddkgaaGreatDoorW.PrintMore
abbrev RL := S53
abbrev PL := S49
abbrev RT := S25
abbrev PT := S31
def toL (x : RL) : PL := ⟨x.f0, x.f1.map toP, x.f2⟩
mutual
def toT : RT → PT
  | ⟨n, l, k⟩ => ⟨n, l.map toL, toTs k⟩
def toTs : List RT → List PT
  | [] => []
  | t :: r => toT t :: toTs r
end
theorem toTs_map : ∀ l : List RT, toTs l = l.map toT
  | [] => by simp [toTs]
  | t :: r => by simp only [toTs, List.map_cons]; rw [toTs_map r]
theorem toT_f (t : RT) : toT t = ⟨t.f0, t.f1.map toL, t.f2.map toT⟩ := by
  obtain ⟨n, l, k⟩ := t
  simp only [toT]; rw [toTs_map]
/-- A line's lists are of a size that any memory bears. -/
def LB (x : RL) : Prop := x.f1.length < 3518437208883 ∧ ∀ p ∈ x.f1, p.f1.length < 8796093022208
mutual
def TB : RT → Prop
  | ⟨n, l, k⟩ => (l.length < 2513169434916 ∧ ∀ x ∈ l, LB x) ∧ k.length < 2199023255552 ∧ TBs k
def TBs : List RT → Prop
  | [] => True
  | t :: r => TB t ∧ TBs r
end
theorem TBs_all : ∀ l : List RT, TBs l → ∀ t ∈ l, TB t
  | [], _, t, ht => by simp at ht
  | x :: r, h, t, ht => by
    simp only [TBs] at h
    rcases List.mem_cons.1 ht with rfl | ht
    · exact h.1
    · exact TBs_all r h.2 t ht
theorem TB_of {t : RT} (h : TB t) : (t.f1.length < 2513169434916 ∧ ∀ x ∈ t.f1, LB x) ∧ t.f2.length < 2199023255552 ∧ ∀ x ∈ t.f2, TB x := by
  obtain ⟨n, l, k⟩ := t
  simp only [TB] at h
  exact ⟨h.1, h.2.1, TBs_all k h.2.2⟩
theorem rdRL (l : List RL) (i : Nat) (h : i < l.length) : rd_T53 l (i : Int) = l[i] := by
  unfold rd_T53
  rw [Int.toNat_natCast, List.getD_eq_getElem?_getD, List.getElem?_eq_getElem h]; rfl
theorem rdRT (l : List RT) (i : Nat) (h : i < l.length) : rd_T25 l (i : Int) = l[i] := by
  unfold rd_T25
  rw [Int.toNat_natCast, List.getD_eq_getElem?_getD, List.getElem?_eq_getElem h]; rfl
theorem kid_lt {t : RT} {x : RT} (h : x ∈ t.f2) : SizeOf.sizeOf x < SizeOf.sizeOf t := by
  obtain ⟨n, l, k⟩ := t
  have h : x ∈ k := h
  have h1 := List.sizeOf_lt_of_mem h
  simp
  omega
theorem theirs_l1 (nm : ByteArray) (l : List RL) (ks : List RT) (ls : List PL) (hk : ks.length < 2199023255552) (ih : ∀ t ∈ ks, Ev (fun k => trystlaw11_Theirs.f k t.f0 t.f1 t.f2) (t.f0, t.f1.map toL, t.f2.map toT)) :
    ∀ (d i : Nat) (acc : List PT), i + d = ks.length → acc.length = i → Ev (fun k => trystlaw11_Theirs.l1 k (ks.length : Int) (i : Int) nm l ks nm ls acc) (nm, ls, acc ++ (ks.drop i).map toT) := by
  intro d
  induction d with
  | zero =>
    intro i acc hi ha
    rw [List.drop_eq_nil_of_le (by omega), List.map_nil, List.append_nil]
    exact Ev.step (f := fun _ => some (nm, ls, acc)) (fun k => by simp only [trystlaw11_Theirs.l1]; rw [if_neg (by omega)]) (Ev.now _)
  | succ d ihd =>
    intro i acc hi ha
    have hil : i < ks.length := by omega
    have h1 := ihd (i + 1) (acc ++ [toT ks[i]]) (by omega) (by simp [ha])
    rw [List.drop_eq_getElem_cons hil, List.map_cons, List.append_cons]
    refine Ev.step (f := fun k => (trystlaw11_Theirs.f k ks[i].f0 ks[i].f1 ks[i].f2).bind fun bt => trystlaw11_Theirs.l1 k (ks.length : Int) ((i + 1 : Nat) : Int) nm l ks nm ls (acc ++ [(⟨bt.1, bt.2.1, bt.2.2⟩ : PT)])) (fun k => ?_) (Ev.bind (ih _ (List.getElem_mem hil)) (by
      show Ev (fun k => trystlaw11_Theirs.l1 k (ks.length : Int) ((i + 1 : Nat) : Int) nm l ks nm ls (acc ++ [(⟨ks[i].f0, ks[i].f1.map toL, ks[i].f2.map toT⟩ : PT)])) _
      rw [← toT_f]; exact h1))
    have hb : acc.length < 2199023255552 := by omega
    simp only [trystlaw11_Theirs.l1, if_pos hb]
    rw [if_pos (by omega), if_pos (by omega), if_pos (by omega), rdRT ks i hil, wrapS i _ hil (by omega)]
theorem theirs_l0 (nm : ByteArray) (l : List RL) (ks : List RT) (hl : l.length < 2513169434916) (hlb : ∀ x ∈ l, LB x) (r : ByteArray × List PL × List PT) (next : Ev (fun k => trystlaw11_Theirs.l1 k (ks.length : Int) ((0 : Nat) : Int) nm l ks nm (l.map toL) ([] : List PT)) r) :
    ∀ (d i : Nat) (acc : List PL), i + d = l.length → acc.length = i → acc ++ (l.drop i).map toL = l.map toL → Ev (fun k => trystlaw11_Theirs.l0 k (l.length : Int) (i : Int) nm l ks nm acc) r := by
  intro d
  induction d with
  | zero =>
    intro i acc hi ha he
    rw [List.drop_eq_nil_of_le (by omega), List.map_nil, List.append_nil] at he
    subst he
    exact Ev.step (fun k => by simp only [trystlaw11_Theirs.l0]; rw [if_neg (by omega)]; rfl) next
  | succ d ihd =>
    intro i acc hi ha he
    have hil : i < l.length := by omega
    rw [List.drop_eq_getElem_cons hil, List.map_cons, List.append_cons] at he
    have h1 := ihd (i + 1) (acc ++ [toL l[i]]) (by omega) (by simp [ha]) he
    have hb := hlb _ (List.getElem_mem hil)
    refine Ev.step (f := fun k => (trystlaw10_Theirs.f k l[i].f0 l[i].f1 l[i].f2).bind fun bt => trystlaw11_Theirs.l0 k (l.length : Int) ((i + 1 : Nat) : Int) nm l ks nm (acc ++ [(⟨bt.1, bt.2.1, bt.2.2⟩ : PL)])) (fun k => ?_) (Ev.bind (theirs _ _ _ hb.1 hb.2) h1)
    have hb : acc.length < 2513169434916 := by omega
    simp only [trystlaw11_Theirs.l0, if_pos hb]
    rw [if_pos (by omega), if_pos (by omega), if_pos (by omega), rdRL l i hil, wrapS i _ hil (by omega)]
theorem theirsT : ∀ (N : Nat) (t : RT), SizeOf.sizeOf t < N → TB t → Ev (fun k => trystlaw11_Theirs.f k t.f0 t.f1 t.f2) (t.f0, t.f1.map toL, t.f2.map toT)
  | 0, t, h, _ => by omega
  | N + 1, t, h, hb => by
    obtain ⟨⟨h1, h2⟩, h3, h4⟩ := TB_of hb
    have ih : ∀ x ∈ t.f2, Ev (fun k => trystlaw11_Theirs.f k x.f0 x.f1 x.f2) (x.f0, x.f1.map toL, x.f2.map toT) := fun x hx => theirsT N x (by have := kid_lt hx; omega) (h4 x hx)
    have n1 := theirs_l1 t.f0 t.f1 t.f2 (t.f1.map toL) h3 ih t.f2.length 0 [] (by omega) rfl
    rw [List.nil_append, List.drop_zero] at n1
    have n0 := theirs_l0 t.f0 t.f1 t.f2 h1 h2 _ n1 t.f1.length 0 [] (by omega) rfl (by rw [List.nil_append, List.drop_zero])
    exact Ev.step (fun k => by simp only [trystlaw11_Theirs.f]; rfl) n0
theorem eqLns_drop (x y : List RL) (i : Nat) (hx : i < x.length) (hy : i < y.length) : eqLns ((x.drop i).map toL) ((y.drop i).map toL) = (eqL x[i].f0 (x[i].f1.map toP) x[i].f2 y[i].f0 (y[i].f1.map toP) y[i].f2 && eqLns ((x.drop (i + 1)).map toL) ((y.drop (i + 1)).map toL)) := by
  rw [List.drop_eq_getElem_cons hx, List.drop_eq_getElem_cons hy, List.map_cons, List.map_cons]
  rfl
theorem eqTs_drop (x y : List RT) (i : Nat) (hx : i < x.length) (hy : i < y.length) : eqTs ((x.drop i).map toT) ((y.drop i).map toT) = (eqT (toT x[i]) (toT y[i]) && eqTs ((x.drop (i + 1)).map toT) ((y.drop (i + 1)).map toT)) := by
  rw [List.drop_eq_getElem_cons hx, List.drop_eq_getElem_cons hy, List.map_cons, List.map_cons]
  simp only [eqTs]
theorem eqT_f (a b : PT) : eqT a b = (decide (a.f0 = b.f0) && (eqLns a.f1 b.f1 && eqTs a.f2 b.f2)) := by
  obtain ⟨n, l, k⟩ := a
  obtain ⟨m, o, j⟩ := b
  simp only [eqT]
theorem same_l1 (a : ByteArray) (la : List RL) (ka : List RT) (b : ByteArray) (lb : List RL) (kb : List RT) (hk : ka.length = kb.length) (hl : ka.length ≤ 9000000000000000000) (ih : ∀ x ∈ ka, ∀ y ∈ kb, Ev (fun k => trystlaw11_Same.f k x.f0 x.f1 x.f2 y.f0 y.f1 y.f2) (eqT (toT x) (toT y))) :
    ∀ (d i : Nat), i + d = ka.length → Ev (fun k => trystlaw11_Same.l1 k (ka.length : Int) (i : Int) a la ka b lb kb) (eqTs ((ka.drop i).map toT) ((kb.drop i).map toT)) := by
  intro d
  induction d with
  | zero =>
    intro i hi
    rw [List.drop_eq_nil_of_le (by omega), List.drop_eq_nil_of_le (by omega), List.map_nil, show eqTs [] [] = true by simp [eqTs]]
    exact Ev.step (f := fun _ => some true) (fun k => by simp only [trystlaw11_Same.l1]; rw [if_neg (by omega)]) (Ev.now _)
  | succ d ihd =>
    intro i hi
    have hx : i < ka.length := by omega
    have hy : i < kb.length := by omega
    rw [eqTs_drop ka kb i hx hy]
    refine Ev.step (f := fun k => (trystlaw11_Same.f k ka[i].f0 ka[i].f1 ka[i].f2 kb[i].f0 kb[i].f1 kb[i].f2).bind fun t => if t = true then trystlaw11_Same.l1 k (ka.length : Int) ((i + 1 : Nat) : Int) a la ka b lb kb else some false) (fun k => by simp only [trystlaw11_Same.l1]; rw [if_pos (by omega), if_pos (by omega), if_pos (by omega), if_pos (by omega), rdRT ka i hx, rdRT kb i hy, wrapS i _ hx hl]) ?_
    refine Ev.bind (ih _ (List.getElem_mem hx) _ (List.getElem_mem hy)) ?_
    cases eqT (toT ka[i]) (toT kb[i]) with
    | false => exact Ev.congr (f := fun _ => some false) (fun k => by rw [if_neg (by simp)]) (Ev.now _)
    | true => exact Ev.congr (fun k => by rw [if_pos rfl]) (by rw [Bool.true_and]; exact ihd (i + 1) (by omega))
theorem same_l0 (a : ByteArray) (la : List RL) (ka : List RT) (b : ByteArray) (lb : List RL) (kb : List RT) (hk : la.length = lb.length) (hl : la.length ≤ 9000000000000000000) (hb : ∀ x ∈ la, LB x) {r : Bool} (next : Ev (fun k => trystlaw11_Same.l1 k (ka.length : Int) ((0 : Nat) : Int) a la ka b lb kb) r) :
    ∀ (d i : Nat), i + d = la.length → Ev (fun k => trystlaw11_Same.l0 k (la.length : Int) (i : Int) a la ka b lb kb) (eqLns ((la.drop i).map toL) ((lb.drop i).map toL) && r) := by
  intro d
  induction d with
  | zero =>
    intro i hi
    rw [List.drop_eq_nil_of_le (by omega), List.drop_eq_nil_of_le (by omega)]
    exact Ev.step (fun k => by simp only [trystlaw11_Same.l0]; rw [if_neg (by omega)]; rfl) next
  | succ d ihd =>
    intro i hi
    have hx : i < la.length := by omega
    have hy : i < lb.length := by omega
    have hbx := hb _ (List.getElem_mem hx)
    rw [eqLns_drop la lb i hx hy, Bool.and_assoc]
    refine Ev.step (f := fun k => (trystlaw10_Same.f k la[i].f0 la[i].f1 la[i].f2 lb[i].f0 lb[i].f1 lb[i].f2).bind fun t => if t = true then trystlaw11_Same.l0 k (la.length : Int) ((i + 1 : Nat) : Int) a la ka b lb kb else some false) (fun k => by simp only [trystlaw11_Same.l0]; rw [if_pos (by omega), if_pos (by omega), if_pos (by omega), if_pos (by omega), rdRL la i hx, rdRL lb i hy, wrapS i _ hx hl]) ?_
    refine Ev.bind (same10 _ _ _ _ _ _ (by have := hbx.1; omega) (fun p hp => by have := hbx.2 p hp; omega)) ?_
    cases eqL la[i].f0 (la[i].f1.map toP) la[i].f2 lb[i].f0 (lb[i].f1.map toP) lb[i].f2 with
    | false => exact Ev.congr (f := fun _ => some false) (fun k => by rw [if_neg (by simp)]) (Ev.now _)
    | true => exact Ev.congr (fun k => by rw [if_pos rfl]) (by rw [Bool.true_and]; exact ihd (i + 1) (by omega))
theorem sameT : ∀ (N : Nat) (a b : RT), SizeOf.sizeOf a < N → TB a → Ev (fun k => trystlaw11_Same.f k a.f0 a.f1 a.f2 b.f0 b.f1 b.f2) (eqT (toT a) (toT b))
  | 0, a, b, h, _ => by omega
  | N + 1, a, b, h, hb => by
    obtain ⟨⟨h1, h2⟩, h3, h4⟩ := TB_of hb
    have hno : Ev (fun k : Nat => trystlaw11_Same.j0 k true a.f0 a.f1 a.f2 b.f0 b.f1 b.f2) false := Ev.step (f := fun _ => some false) (fun k => by simp only [trystlaw11_Same.j0]; rfl) (Ev.now _)
    rw [eqT_f, toT_f, toT_f]
    show Ev _ (decide (a.f0 = b.f0) && (eqLns (a.f1.map toL) (b.f1.map toL) && eqTs (a.f2.map toT) (b.f2.map toT)))
    by_cases hn : a.f0 = b.f0
    case neg =>
      rw [decide_eq_false hn, Bool.false_and]
      exact Ev.step (fun k => by simp only [trystlaw11_Same.f]; rw [if_neg (fun he => hn (toList_ba.1 he))]) hno
    rw [decide_eq_true hn, Bool.true_and]
    by_cases hl : a.f1.length = b.f1.length
    case neg =>
      rw [eqLns_len _ _ (by rw [List.length_map, List.length_map]; exact hl), Bool.false_and]
      exact Ev.step (fun k => by simp only [trystlaw11_Same.f]; rw [if_pos (by rw [hn]), if_neg (by omega)]) hno
    by_cases hk : a.f2.length = b.f2.length
    case neg =>
      rw [eqTs_len _ _ (by rw [List.length_map, List.length_map]; exact hk), Bool.and_false]
      exact Ev.step (fun k => by simp only [trystlaw11_Same.f]; rw [if_pos (by rw [hn]), if_pos (by omega), show ((a.f2.length : Int) != (b.f2.length : Int)) = true from bne_iff_ne.2 (by omega)]) hno
    have ih : ∀ x ∈ a.f2, ∀ y ∈ b.f2, Ev (fun k => trystlaw11_Same.f k x.f0 x.f1 x.f2 y.f0 y.f1 y.f2) (eqT (toT x) (toT y)) := fun x hx y _ => sameT N x y (by have := kid_lt hx; omega) (h4 x hx)
    have n1 := same_l1 a.f0 a.f1 a.f2 b.f0 b.f1 b.f2 hk (by omega) ih a.f2.length 0 (by omega)
    rw [List.drop_zero, List.drop_zero] at n1
    have n0 := same_l0 a.f0 a.f1 a.f2 b.f0 b.f1 b.f2 hl (by omega) h2 n1 a.f1.length 0 (by omega)
    rw [List.drop_zero, List.drop_zero] at n0
    refine Ev.step (f := fun k => trystlaw11_Same.j0 k false a.f0 a.f1 a.f2 b.f0 b.f1 b.f2) (fun k => by simp only [trystlaw11_Same.f]; rw [if_pos (by rw [hn]), if_pos (by omega), show ((a.f2.length : Int) != (b.f2.length : Int)) = false from bne_eq_false_iff_eq.2 (by omega)]) ?_
    exact Ev.step (fun k => by simp only [trystlaw11_Same.j0]; rfl) n0
theorem eqLns_self : ∀ l : List PL, eqLns l l = true
  | [] => rfl
  | p :: t => by unfold eqLns eqLn eqL; rw [eqPs_self, decide_eq_true rfl, decide_eq_true rfl, eqLns_self t]; rfl
theorem eqT_self : ∀ (N : Nat) (a : PT), SizeOf.sizeOf a < N → eqT a a = true
  | 0, a, h => by omega
  | N + 1, a, h => by
    obtain ⟨n, l, k⟩ := a
    have hk : ∀ m : List PT, (∀ x ∈ m, SizeOf.sizeOf x < N) → eqTs m m = true := by
      intro m
      induction m with
      | nil => intro _; simp [eqTs]
      | cons x t ih => intro hm; simp only [eqTs]; rw [eqT_self N x (hm x (by simp)), ih (fun y hy => hm y (by simp [hy]))]; rfl
    simp only [eqT]
    rw [eqLns_self, hk k (fun x hx => by have h1 := List.sizeOf_lt_of_mem hx; simp at h; omega)]
    simp
theorem size_l1 (nm : ByteArray) (l : List RL) (ks : List RT) (dp : Int) (hl : ks.length ≤ 9000000000000000000) (ih : ∀ t ∈ ks, ∀ dp : Int, ∃ r, Ev (fun k => trystlaw11_size.f k t.f0 t.f1 t.f2 dp) r) :
    ∀ (d i : Nat) (n : Int), i + d = ks.length → ∃ r, Ev (fun k => trystlaw11_size.l1 k dp n (ks.length : Int) (i : Int) nm l ks) r := by
  intro d
  induction d with
  | zero => intro i n hi; exact ⟨n, Ev.step (f := fun _ => some n) (fun k => by simp only [trystlaw11_size.l1]; rw [if_neg (by omega)]) (Ev.now _)⟩
  | succ d ihd =>
    intro i n hi
    have hil : i < ks.length := by omega
    by_cases hd : dp > 10
    · exact ⟨1048576, Ev.step (f := fun _ => some 1048576) (fun k => by simp only [trystlaw11_size.l1]; rw [if_pos (by omega), if_pos hd]) (Ev.now _)⟩
    by_cases hn : n > 50000
    · exact ⟨1048576, Ev.step (f := fun _ => some 1048576) (fun k => by simp only [trystlaw11_size.l1]; rw [if_pos (by omega), if_neg hd, if_pos hn]) (Ev.now _)⟩
    obtain ⟨r, hr⟩ := ih _ (List.getElem_mem hil) (wrap64 (dp + 1))
    obtain ⟨q, hq⟩ := ihd (i + 1) (wrap64 (n + r)) (by omega)
    exact ⟨q, Ev.step (fun k => by simp only [trystlaw11_size.l1]; rw [if_pos (by omega), if_neg hd, if_neg hn, if_pos (by omega), if_pos (by omega), rdRT ks i hil, wrapS i _ hil hl]) (Ev.bind hr hq)⟩
end Go.Proofs.YtdojmdbaiddkgaaGreatDoor.Pure
end
section
set_option linter.unusedVariables false
set_option linter.unusedSimpArgs false
namespace Go.Proofs.YtdojmdbaiddkgaaGreatDoor.Args
open Go Go.RowKit Go.Lib Go.Proofs.YtdojmdbaiddkgaaGreatDoorW.PrintWords Go.Proofs.YtdojmdbaiddkgaaGreatDoor.Print
abbrev RTree := S25
def RdN {α : Type} (N : Nat) (d : Kd α) (t : TypeId) (B : α → Prop) : Prop := ∀ (H : Type) (enc : TypeId × Value → H) (W : World) (fuel : Nat) (cs : List Value) (x : DataW H × List MemPlace), fuel ≤ N → DataW.trod enc Tryz.prog W 0 (fun _ => true) true fuel t cs = some x → (∀ n ∈ x.1.weights Tryz.prog t, n ≤ reachBytes) → ∃ a, d.K W a cs ∧ B a
theorem RdN.of {α : Type} {N : Nat} {d : Kd α} {t : TypeId} {B : α → Prop} (h : Rd d t B) : RdN N d t B := fun H enc W fuel cs x _ hx hw => h H enc W fuel cs x hx hw
theorem RdN.slice {α : Type} {N : Nat} {d : Kd α} {t e : TypeId} {B : α → Prop} (ht : Tryz.prog.underlying t = some (.slice e)) (hc : Tryz.prog.cellsOf e = d.sz) (hz : 0 < d.sz) (nb : Nat) (hnb : Tryz.prog.bytesOf e = nb) (hd : RdN N d e B) : RdN N (Kd.slice e d) t (fun l => l.length * nb ≤ 140737488351232 ∧ ∀ a ∈ l, B a) := by
  subst hnb
  intro H enc W fuel cs x hN h hw
  rcases DataW.trod_slice ht h with ⟨rfl, rfl⟩ | ⟨a, len, cap, elems, rest, n, rfl, rfl, rfl, _, hlc, hcm, hel, hget, _, _⟩
  · exact ⟨[], ⟨none, 0, rfl, Nat.le_refl _, rfl, by simp, fun h => absurd h (by simp)⟩, by simp, fun a h => by simp at h⟩
  · have hws : ∀ q ∈ ((DataW.slice (elems.map (·.1)) (rest.map (·.1))) : DataW H).weights Tryz.prog t, q ≤ reachBytes := hw
    simp only [DataW.weights, ht] at hws
    have hq : ∀ i, i < len → ∃ a', ∃ c : List Value, (c.length = d.sz ∧ d.K W a' c ∧ ∀ j u, c[j]? = some u → W.cell? (a.add (i * d.sz + j)) = some u) ∧ B a' := by
      intro i hi
      have h1 := hget i hi
      have hie : i < elems.length := by omega
      rw [List.getElem?_eq_getElem hie] at h1
      obtain ⟨cs', hcs, htr⟩ := Option.bind_eq_some_iff.1 h1
      obtain ⟨_, hcl, hcc⟩ := World.cells?_some hcs
      obtain ⟨a', hK, hB⟩ := hd H enc W n cs' elems[i] (by omega) htr (fun q hq => hws q (List.mem_cons_of_mem _ (List.mem_append_left _ (mem_weightsAll (List.mem_map.2 ⟨elems[i], List.getElem_mem hie, rfl⟩) q hq))))
      refine ⟨a', cs', ⟨by rw [hcl, hc], hK, fun j u hu => ?_⟩, hB⟩
      have hj : j < Tryz.prog.cellsOf e := by have := (List.getElem?_eq_some_iff.1 hu).1; omega
      have h2 := hcc j hj
      rw [Go.Deep.add_add, hc] at h2
      rw [h2, hu]
    obtain ⟨l, hl, hQ⟩ := exists_list len hq
    refine ⟨l, ⟨some a, cap, by rw [hl], by omega, rfl, by unfold maxLen at hcm; omega, fun _ => ⟨a, rfl, fun j p hj => ?_⟩⟩, ?_, fun p hp => ?_⟩
    · obtain ⟨c, ⟨h1, h2, h3⟩, _⟩ := hQ j p hj
      exact ⟨c, h1, h2, h3⟩
    · have := hws _ List.mem_cons_self
      rw [List.length_map, List.length_map, hel] at this
      rw [hl]
      refine Nat.le_trans (Nat.mul_le_mul_right _ (by omega)) this
    · obtain ⟨i, hi, rfl⟩ := List.mem_iff_getElem.1 hp
      exact (hQ i _ (List.getElem?_eq_getElem hi)).choose_spec.2
def RdFN {α : Type} (N : Nat) (d : Kd α) (ts : List TypeId) (B : α → Prop) : Prop := ∀ (H : Type) (enc : TypeId × Value → H) (W : World) (fuel : Nat) (cs : List Value) (xs : List (DataW H × List MemPlace)), fuel ≤ N → Trods enc W fuel ts cs xs → (∀ n ∈ DataW.weightsEach Tryz.prog ts (xs.map (·.1)), n ≤ reachBytes) → ∃ a, d.K W a cs ∧ B a
theorem RdFN.one {α : Type} {N : Nat} {d : Kd α} {t : TypeId} {B : α → Prop} (h : RdN N d t B) : RdFN N d [t] B := by
  intro H enc W fuel cs xs hN ht hw
  obtain ⟨c0, c1, x0, x1, rfl, rfl, h0, rfl, rfl⟩ := ht
  rw [List.append_nil]
  exact h H enc W fuel c0 x0 hN h0 (fun n hn => hw n (by simp only [List.map_cons, DataW.weightsEach]; exact List.mem_append_left _ hn))
theorem RdFN.cons {α β : Type} {N : Nat} {d0 : Kd α} {d1 : Kd β} {t : TypeId} {ts : List TypeId} {B0 : α → Prop} {B1 : β → Prop} (h0 : RdN N d0 t B0) (h1 : RdFN N d1 ts B1) : RdFN N (Kd.pair d0 d1) (t :: ts) (fun x => B0 x.1 ∧ B1 x.2) := by
  intro H enc W fuel cs xs hN ht hw
  obtain ⟨c0, c1, x0, x1, rfl, rfl, g0, g1⟩ := ht
  obtain ⟨a, ha, hb⟩ := h0 H enc W fuel c0 x0 hN g0 (fun n hn => hw n (by simp only [List.map_cons, DataW.weightsEach]; exact List.mem_append_left _ hn))
  obtain ⟨b, hb1, hb2⟩ := h1 H enc W fuel c1 x1 hN g1 (fun n hn => hw n (by simp only [List.map_cons, DataW.weightsEach]; exact List.mem_append_right _ hn))
  exact ⟨(a, b), ⟨c0, c1, rfl, ha, hb1⟩, hb, hb2⟩
theorem RdN.struct {α : Type} {N : Nat} {d : Kd α} {t : TypeId} {fs : Array Field} {B : α → Prop} (ht : Tryz.prog.underlying t = some (.struct fs)) (hc : contig Tryz.prog (Tryz.prog.cellsOf t) 0 fs.toList = true) (h : RdFN N d (fs.toList.map (·.type)) B) : RdN (N + 1) d t B := by
  intro H enc W fuel cs x hN hx hw
  obtain ⟨xs, n, rfl, rfl, hl, hlen, hf⟩ := DataW.trod_struct ht hx
  have hT := trods_of (enc := enc) (W := W) (n := n) (cs := cs) fs.toList xs 0 (by rw [hl]; exact hc) (by simpa using hlen) (fun i q hq => hf i q (by simpa using hq))
  rw [List.drop_zero] at hT
  exact h H enc W n cs xs (by omega) hT (fun q hq => hw q (by simp only [DataW.weights, ht]; exact hq))
theorem TBs_mk : ∀ l : List RTree, (∀ t ∈ l, Pure.TB t) → Pure.TBs l
  | [], _ => by simp [Pure.TBs]
  | t :: r, h => by
    simp only [Pure.TBs]
    exact ⟨h t (by simp), TBs_mk r (fun x hx => h x (by simp [hx]))⟩
theorem rdLineS : Rd k53 53 (fun x => LineB (x.f0, x.f1, x.f2)) :=
  Rd.struct (B := LineB) (fun x : S53 => (x.f0, x.f1, x.f2)) (fun a => ⟨a.1, a.2.1, a.2.2⟩) (fun _ => rfl) Tryz.underlying53 (by kernel_rfl) (RdF.cons (Rd.string Tryz.underlying9) (RdF.cons (Rd.slice (t := 51) Tryz.underlying51 (by kernel_rfl) (by decide) 40 (by kernel_rfl) rdPar) (RdF.one (Rd.string Tryz.underlying9))))
theorem LB_of {x : S53} (h : LineB (x.f0, x.f1, x.f2)) : Pure.LB x := ⟨by have := h.2.1.1; simp only at this; omega, fun p hp => by have := (h.2.1.2 p hp).2.1; omega⟩
/-- A tree, as the walks ask for it. -/
def IsTree (W : World) (v : Value) (z : RTree) : Prop := Pure.TB z ∧ ∃ A1 c1 A2 c2, v = .agg #[.string z.f0, .slice A1 z.f1.length c1, .slice A2 z.f2.length c2] ∧ z.f1.length ≤ c1 ∧ Kd.C k53 W A1 z.f1.length z.f1 ∧ z.f2.length ≤ c2 ∧ Kd.C k25 W A2 z.f2.length z.f2
end Go.Proofs.YtdojmdbaiddkgaaGreatDoor.Args
end
section
set_option linter.unusedVariables false
set_option linter.unusedSimpArgs false
namespace Go.Proofs.YtdojmdbaiddkgaaGreatDoor.Pure
open Go.RowKit Go.Proofs.YtdojmdbaiddkgaaGreatDoor.Print Go.Proofs.YtdojmdbaiddkgaaGreatDoorW.PrintWords Go.Proofs.YtdojmdbaiddkgaaGreatDoorW.PrintLast Go.Proofs.YtdojmdbaiddkgaaGreatDoorW.PrintMore
theorem bt_nat (s : ByteArray) (m : Nat) : bt s (m : Int) = ((s.data.toList.getD m 0).toNat : Int) := by
  unfold bt
  by_cases h : m < s.size
  · rw [dif_pos (by simpa using h)]
    have : s.data.toList.getD m 0 = s[m] := by
      rw [List.getD_eq_getElem?_getD, List.getElem?_eq_getElem (by simpa using h)]; rfl
    rw [this]; rfl
  · rw [dif_neg (by simpa using h)]
    rw [List.getD_eq_getElem?_getD, List.getElem?_eq_none (by simp; omega)]; rfl
theorem wrap_one (m : Nat) (h : m ≤ 140737488355327) : wrap64 ((m : Int) + 1) = ((m + 1 : Nat) : Int) := by
  unfold wrap64; omega
def refN (n b0 b1 b2 b3 : Nat) : Nat :=
  if b0 < 128 then 1
  else if 194 ≤ b0 ∧ b0 < 224 then (if n < 2 then 0 else if 128 ≤ b1 ∧ b1 < 192 then 2 else 0)
  else if 224 ≤ b0 ∧ b0 < 240 then (if n < 3 then 0 else if (128 ≤ b1 ∧ b1 < 192) ∧ 128 ≤ b2 ∧ b2 < 192 then (if b0 = 224 ∧ b1 < 160 ∨ b0 = 237 ∧ 159 < b1 then 0 else 3) else 0)
  else if 240 ≤ b0 ∧ b0 < 245 then (if n < 4 then 0 else if (128 ≤ b1 ∧ b1 < 192) ∧ (128 ≤ b2 ∧ b2 < 192) ∧ 128 ≤ b3 ∧ b3 < 192 then (if b0 = 240 ∧ b1 < 144 ∨ b0 = 244 ∧ 143 < b1 then 0 else 4) else 0)
  else 0
def nxN (d : Nat × Nat) : Nat := if d = (65533, 1) then 0 else d.2
set_option maxHeartbeats 2000000 in
theorem refN_eq (n b0 b1 b2 b3 : Nat) (hn : 1 ≤ n) (h0 : b0 < 256) (h1 : b1 < 256) (h2 : b2 < 256) (h3 : b3 < 256) : refN n b0 b1 b2 b3 = nxN (Lib.decodeN n b0 b1 b2 b3) := by
  unfold refN nxN Lib.decodeN
  by_cases c0 : b0 < 128
  · rw [if_pos c0, if_pos c0, if_neg (by simp; omega)]
  · rw [if_neg c0, if_neg c0]
    by_cases c1 : 194 ≤ b0 ∧ b0 < 224
    · rw [if_pos c1]
      repeat' split
      all_goals first | rfl | (exfalso; omega) | (simp_all; omega) | simp_all
    · rw [if_neg c1]
      by_cases c2 : 224 ≤ b0 ∧ b0 < 240
      · rw [if_pos c2]
        repeat' split
        all_goals first | rfl | (exfalso; omega) | (simp_all; omega) | simp_all
      · rw [if_neg c2]
        by_cases c3 : 240 ≤ b0 ∧ b0 < 245
        · rw [if_pos c3]
          repeat' split
          all_goals first | rfl | (exfalso; omega) | (simp_all; omega) | simp_all
        · rw [if_neg c3]
          repeat' split
          all_goals first | rfl | (exfalso; omega) | (simp_all; omega) | simp_all
theorem lt256 (l : List UInt8) (m : Nat) : (l.getD m 0).toNat < 256 := (l.getD m 0).toNat_lt
theorem v1 : wrap64 (1 + 1) = 2 := by unfold wrap64; omega
theorem v2 : wrap64 (2 + 1) = 3 := by unfold wrap64; omega
theorem v3 : wrap64 (3 + 1) = 4 := by unfold wrap64; omega
section
variable {s : ByteArray} {i b0 b1 b2 b3 : Nat}
end
/-- How many bytes the code point at the head has; 0: it is none. -/
def nx (l : List UInt8) : Nat := nxN (Lib.decodeL l)
theorem decL_pos (l : List UInt8) (hne : l ≠ []) : 1 ≤ (Lib.decodeL l).2 := by
  unfold Lib.decodeL
  refine Lib.decode_width_pos _ 0 ?_
  show 0 < l.toArray.size
  rw [List.size_toArray]
  exact List.length_pos_iff.2 hne
theorem nx_bad (l : List UInt8) (hne : l ≠ []) : nx l = 0 ↔ (Lib.decodeL l).1 = 65533 ∧ (Lib.decodeL l).2 = 1 := by
  have h1 := decL_pos l hne
  unfold nx nxN
  constructor
  · intro h
    split at h
    · rename_i h2; rw [h2]; exact ⟨rfl, rfl⟩
    · omega
  · rintro ⟨h2, h3⟩
    rw [if_pos (by cases hd : Lib.decodeL l; rw [hd] at h2 h3; simp at h2 h3; rw [h2, h3])]
theorem nx_good (l : List UInt8) (h : ¬ ((Lib.decodeL l).1 = 65533 ∧ (Lib.decodeL l).2 = 1)) : nx l = (Lib.decodeL l).2 := by
  unfold nx nxN
  rw [if_neg (fun e => h (by rw [e]; exact ⟨rfl, rfl⟩))]
theorem drop_at (s : ByteArray) (k : Nat) (h : k < s.size) : s.data.toList.drop k = s.data.toList.getD k 0 :: s.data.toList.drop (k + 1) := by
  rw [List.drop_eq_getElem_cons (by simpa using h)]
  rw [List.getD_eq_getElem?_getD, List.getElem?_eq_getElem (by simpa using h)]; rfl
theorem ne_nat (c : UInt8) (n : Nat) (hn : n < 256) (h : c ≠ n.toUInt8) : ¬ (c.toNat : Int) = (n : Int) :=
  fun e => h (by apply UInt8.toNat_inj.1; have : c.toNat = n := by omega
                 rw [this]; simp; omega)
end Go.Proofs.YtdojmdbaiddkgaaGreatDoor.Pure
end
section
set_option linter.unusedVariables false
set_option linter.unusedSimpArgs false
namespace Go.Proofs.YtdojmdbaiddkgaaGreatDoor.Pure
open Go.RowKit Go.Proofs.YtdojmdbaiddkgaaGreatDoor.Print Go.Proofs.YtdojmdbaiddkgaaGreatDoorW.PrintWords Go.Proofs.YtdojmdbaiddkgaaGreatDoorW.PrintLast Go.Proofs.YtdojmdbaiddkgaaGreatDoorW.PrintMore
/-- May this byte stand? -/
def okB (feeds : Bool) (c : UInt8) : Bool := !(c == 127 || (decide (c.toNat < 32) && c != 9 && !(feeds && c == 10)))
def cleanR (feeds : Bool) (l : List UInt8) : Int := if Lib.validD l = true then (if l.all (okB feeds) = true then 0 else 7) else 3
theorem control_some (c : UInt8) (f : Bool) : escape_control.f c.toNat f = some (!okB f c) := by
  have hc := c.toNat_lt
  unfold escape_control.f
  by_cases h3 : c = 9
  · subst h3; cases f <;> rfl
  · rw [if_neg (show ¬ (c.toNat : Int) = 9 from ne_nat c 9 (by omega) h3)]
    by_cases h4 : c = 10
    · subst h4; cases f <;> rfl
    · rw [if_neg (show ¬ (c.toNat : Int) = 10 from ne_nat c 10 (by omega) h4)]
      by_cases h2 : (c.toNat : Int) < 32
      · rw [if_pos h2]
        have : okB f c = false := by
          have e2 : decide (c.toNat < 32) = true := by simp; omega
          have e4 : (c == 10) = false := by simp [h4]
          have e9 : (c != 9) = true := by simp [h3]
          unfold okB; rw [e2, e4, e9]; cases f <;> simp
        rw [this]; rfl
      · rw [if_neg h2]
        have e2 : decide (c.toNat < 32) = false := by simp; omega
        by_cases h1 : c = 127
        · subst h1; cases f <;> rfl
        · have : ((c.toNat : Int) == 127) = false := beq_eq_false_iff_ne.2 (show ¬ (c.toNat : Int) = 127 from ne_nat c 127 (by omega) h1)
          have e1 : (c == 127) = false := by simp [h1]
          unfold okB; rw [this, e1, e2]; simp
theorem escClean_ev (s : ByteArray) (f : Bool) (hs : s.size ≤ 140737488351232) : ∀ (n i : Nat), s.size - i ≤ n → i ≤ s.size → Ev (fun k => escape_Clean.l0 k s f (s.size : Int) i) (if (s.data.toList.drop i).all (okB f) = true then (0 : Int) else 7)
  | 0, i, h, hi => by
    obtain rfl : i = s.size := by omega
    refine Ev.step (f := fun _ => some 0) (fun k => ?_) ?_
    · simp only [escape_Clean.l0]; rw [if_neg (by omega)]
    · rw [List.drop_of_length_le (by simp)]; exact Ev.now _
  | n + 1, i, h, hi => by
    by_cases hlt : i < s.size
    · rw [drop_at s i hlt]
      have hb := bt_nat s i
      have ih := escClean_ev s f hs n (i + 1) (by omega) (by omega)
      generalize s.data.toList.getD i 0 = c at *
      refine Ev.step (f := fun k => if okB f c = true then escape_Clean.l0 k s f (s.size : Int) ((i + 1 : Nat) : Int) else some 7) (fun k => ?_) ?_
      · simp only [escape_Clean.l0, hb, control_some, Option.bind_some]
        rw [if_pos (by omega), if_pos (by omega), if_pos (by omega), wrap_one i (by omega)]
        cases okB f c <;> rfl
      · rw [List.all_cons]
        cases hok : okB f c
        · exact Ev.now 7
        · simpa using ih
    · obtain rfl : i = s.size := by omega
      refine Ev.step (f := fun _ => some 0) (fun k => ?_) ?_
      · simp only [escape_Clean.l0]; rw [if_neg (by omega)]
      · rw [List.drop_of_length_le (by simp)]; exact Ev.now _
theorem escClean (s : ByteArray) (f : Bool) (hs : s.size ≤ 140737488351232) : Ev (fun k => escape_Clean.f k s f) (cleanR f s.data.toList) := by
  unfold escape_Clean.f
  have h1 : utf8_ValidString.f s = some (Lib.validD s.data.toList) := by unfold utf8_ValidString.f; rw [if_pos (by omega)]
  simp only [h1, Option.bind_some]
  unfold cleanR
  cases hv : Lib.validD s.data.toList
  · exact Ev.now 3
  · have := escClean_ev s f hs s.size 0 (by omega) (by omega)
    simpa using this
end Go.Proofs.YtdojmdbaiddkgaaGreatDoor.Pure
end
section
set_option linter.unusedVariables false
set_option linter.unusedSimpArgs false
set_option linter.unusedSectionVars false
namespace Go.Proofs.YtdojmdbaiddkgaaGreatDoor.Pure
open Go.RowKit Go.Proofs.YtdojmdbaiddkgaaGreatDoor.Print Go.Proofs.YtdojmdbaiddkgaaGreatDoorW.PrintWords Go.Proofs.YtdojmdbaiddkgaaGreatDoorW.PrintLast Go.Proofs.YtdojmdbaiddkgaaGreatDoorW.PrintMore
def upN (n : Nat) : Bool := (decide (65 ≤ n) && decide (n ≤ 90)) || (decide (48 ≤ n) && decide (n ≤ 57)) || n == 45
def upB (c : UInt8) : Bool := upN c.toNat
theorem sign_all : ∀ n : Fin 256, line_sign.f ((n.1 : Nat) : Int) true = some (upN n.1) := by decide +kernel
theorem sign_up (c : UInt8) : line_sign.f c.toNat true = some (upB c) := sign_all ⟨c.toNat, c.toNat_lt⟩
def nameR (s : ByteArray) : Bool := s.data.toList.all upB && (decide (1 ≤ s.size) && decide (s.size ≤ 60))
theorem nameL_ev (s : ByteArray) (hs : s.size ≤ 140737488351232) : ∀ (n i : Nat), s.size - i ≤ n → i ≤ s.size → Ev (fun k => line_Name.l0 k s (s.size : Int) i) ((s.data.toList.drop i).all upB && (decide (1 ≤ s.size) && decide (s.size ≤ 60)))
  | 0, i, h, hi => by
    obtain rfl : i = s.size := by omega
    refine Ev.step (f := fun _ => some (decide (1 ≤ s.size) && decide (s.size ≤ 60))) (fun k => ?_) ?_
    · simp only [line_Name.l0]; rw [if_neg (by omega)]
      by_cases h1 : 1 ≤ s.size
      · rw [if_pos (by omega), decide_eq_true h1, Bool.true_and]; exact congrArg some (decide_eq_decide.2 (by omega))
      · rw [if_neg (by omega), decide_eq_false h1, Bool.false_and]
    · rw [List.drop_of_length_le (by simp)]; exact Ev.now _
  | n + 1, i, h, hi => by
    by_cases hlt : i < s.size
    · rw [drop_at s i hlt]
      have hb := bt_nat s i
      have ih := nameL_ev s hs n (i + 1) (by omega) (by omega)
      generalize s.data.toList.getD i 0 = c at *
      refine Ev.step (f := fun k => if upB c = true then line_Name.l0 k s (s.size : Int) ((i + 1 : Nat) : Int) else some false) (fun k => ?_) ?_
      · simp only [line_Name.l0, hb, sign_up, Option.bind_some]
        rw [if_pos (by omega), if_pos (by omega), if_pos (by omega), wrap_one i (by omega)]
      · rw [List.all_cons]
        cases hok : upB c
        · exact Ev.now false
        · simpa using ih
    · exact nameL_ev s hs 0 i (by omega) hi
theorem nameL (s : ByteArray) (hs : s.size ≤ 140737488351232) : Ev (fun k => line_Name.f k s) (nameR s) := by
  have := nameL_ev s hs s.size 0 (by omega) (by omega)
  rw [List.drop_zero] at this
  exact this
def cleanB (x : ByteArray) : Bool := decide (cleanR true x.data.toList = 0)
def parR (nm : ByteArray) (l : List ByteArray) : Bool := nameR nm && (decide (1 ≤ l.length) && (decide (l.length ≤ 60) && l.all cleanB))
theorem cleanB_ne {x : ByteArray} (h : cleanB x = false) : ¬ cleanR true x.data.toList = 0 := of_decide_eq_false h
theorem parL_ev (l : List ByteArray) (hl : l.length ≤ 60) (hs : ∀ x ∈ l, x.size ≤ 140737488351232) : ∀ (n i : Nat), i + n = l.length → Ev (fun k => line_Param_formed.l0 k l (l.length : Int) i) ((l.drop i).all cleanB)
  | 0, i, h => by
    rw [List.drop_eq_nil_of_le (by omega)]
    exact Ev.step (f := fun _ => some true) (fun k => by simp only [line_Param_formed.l0]; rw [if_neg (by omega)]) (Ev.now _)
  | n + 1, i, h => by
    have hil : i < l.length := by omega
    rw [List.drop_eq_getElem_cons hil, List.all_cons]
    refine Ev.step (f := fun k => (escape_Clean.f k l[i] true).bind fun t => if t = 0 then line_Param_formed.l0 k l (l.length : Int) ((i + 1 : Nat) : Int) else some false) (fun k => by simp only [line_Param_formed.l0]; rw [if_pos (by omega), if_pos (by omega), if_pos (by omega), rdS l i hil, wrapS i _ hil (by omega)]) ?_
    refine Ev.bind (escClean _ _ (hs _ (List.getElem_mem hil))) ?_
    have ih := parL_ev l hl hs n (i + 1) (by omega)
    cases hc : cleanB l[i] with
    | false => exact Ev.congr (f := fun _ => some false) (fun k => by rw [if_neg (cleanB_ne hc)]) (Ev.now _)
    | true => rw [Bool.true_and]; exact Ev.congr (fun k => by rw [if_pos (of_decide_eq_true hc)]) ih
theorem parL_f (nm : ByteArray) (l : List ByteArray) (hn : nm.size ≤ 140737488351232) (hs : ∀ x ∈ l, x.size ≤ 140737488351232) : Ev (fun k => line_Param_formed.f k nm l) (parR nm l) := by
  have hno : Ev (fun k => line_Param_formed.j0 k true nm l) false := Ev.step (f := fun _ => some false) (fun k => by simp only [line_Param_formed.j0]; rfl) (Ev.now _)
  refine Ev.bind (nameL nm hn) ?_
  unfold parR
  cases nameR nm with
  | false => exact Ev.congr (fun k => by rw [if_neg (by simp)]) hno
  | true =>
    by_cases h1 : 1 ≤ l.length
    · by_cases h2 : l.length ≤ 60
      · rw [decide_eq_true h1, decide_eq_true h2]
        have e : decide ((l.length : Int) > 60) = false := decide_eq_false (by omega)
        refine Ev.congr (f := fun k => line_Param_formed.j0 k false nm l) (fun k => by rw [if_pos rfl, if_neg (by omega), e]) ?_
        have := parL_ev l h2 hs l.length 0 (by omega)
        rw [List.drop_zero] at this
        exact Ev.step (fun k => by simp only [line_Param_formed.j0]; rfl) this
      · rw [decide_eq_true h1, decide_eq_false h2]
        have e : decide ((l.length : Int) > 60) = true := decide_eq_true (by omega)
        exact Ev.congr (fun k => by rw [if_pos rfl, if_neg (by omega), e]) hno
    · rw [decide_eq_false h1]
      exact Ev.congr (fun k => by rw [if_pos rfl, if_pos (by omega)]) hno
def okPs : List LP → List LP → Bool
  | _, [] => true
  | seen, p :: t => parR p.f0 p.f1 && (!seen.any (hasN p.f0) && okPs (seen ++ [p]) t)
def formR (nm : ByteArray) (l : List LP) (v : ByteArray) : Bool := nameR nm && (decide (l.length ≤ 60) && (decide (cleanR false v.data.toList = 0) && okPs [] l))
theorem idxN_any (a : ByteArray) : ∀ (l : List LP) (i : Nat), decide (idxN a l i ≥ 0) = l.any (hasN a)
  | [], i => rfl
  | p :: t, i => by
    rw [idxN, List.any_cons]
    cases h : hasN a p with
    | true => rw [if_pos rfl, Bool.true_or]; exact decide_eq_true (by omega)
    | false => rw [if_neg (by simp), Bool.false_or]; exact idxN_any a t (i + 1)
theorem rdP (l : List LP) (i : Nat) (h : i < l.length) : rd_T77 l (i : Int) = l[i] := by
  unfold rd_T77
  rw [Int.toNat_natCast, List.getD_eq_getElem?_getD, List.getElem?_eq_getElem h]; rfl
def ParB' (p : LP) : Prop := p.f0.size ≤ 140737488351232 ∧ ∀ x ∈ p.f1, x.size ≤ 140737488351232
theorem formL_ev (nm v : ByteArray) (l : List LP) (hl : l.length ≤ 60) (hs : ∀ p ∈ l, ParB' p) : ∀ (n i : Nat), i + n = l.length → Ev (fun k => line_Formed.l0 k l (l.length : Int) i nm l v) (okPs (l.take i) (l.drop i))
  | 0, i, h => by
    rw [List.drop_eq_nil_of_le (by omega)]
    exact Ev.step (f := fun _ => some true) (fun k => by simp only [line_Formed.l0]; rw [if_neg (by omega)]) (Ev.now _)
  | n + 1, i, h => by
    have hil : i < l.length := by omega
    rw [List.drop_eq_getElem_cons hil, okPs]
    have hp := hs _ (List.getElem_mem hil)
    refine Ev.step (f := fun k => (line_Param_formed.f k l[i].f0 l[i].f1).bind fun t => if t = true then (if idxN l[i].f0 (l.take i) 0 ≥ 0 then some false else line_Formed.l0 k l (l.length : Int) ((i + 1 : Nat) : Int) nm l v) else some false) (fun k => by
      simp only [line_Formed.l0]
      rw [if_pos (by omega), if_pos (by omega), if_pos (by omega), rdP l i hil, wrapS i _ hil (by omega), if_pos (show (i : Int) ≤ (l.length : Int) by omega)]
      rfl) ?_
    refine Ev.bind (parL_f _ _ hp.1 hp.2) ?_
    have ih := formL_ev nm v l hl hs n (i + 1) (by omega)
    rw [List.take_succ_eq_append_getElem hil] at ih
    cases hc : parR l[i].f0 l[i].f1 with
    | false => exact Ev.congr (f := fun _ => some false) (fun k => by rw [if_neg (by simp)]) (Ev.now _)
    | true =>
      rw [Bool.true_and]
      have hi := idxN_any l[i].f0 (l.take i) 0
      cases ha : (l.take i).any (hasN l[i].f0) with
      | true =>
        rw [ha] at hi
        exact Ev.congr (f := fun _ => some false) (fun k => by rw [if_pos rfl, if_pos (of_decide_eq_true hi)]) (Ev.now _)
      | false =>
        rw [ha] at hi
        rw [Bool.not_false, Bool.true_and]
        exact Ev.congr (fun k => by rw [if_pos rfl, if_neg (of_decide_eq_false hi)]) ih
theorem formL (nm v : ByteArray) (l : List LP) (hn : nm.size ≤ 140737488351232) (hv : v.size ≤ 140737488351232) (hs : ∀ p ∈ l, ParB' p) : Ev (fun k => line_Formed.f k nm l v) (formR nm l v) := by
  have hno : Ev (fun k => line_Formed.j0 k true nm l v) false := Ev.step (f := fun _ => some false) (fun k => by simp only [line_Formed.j0]; rfl) (Ev.now _)
  refine Ev.bind (nameL nm hn) ?_
  unfold formR
  cases nameR nm with
  | false => exact Ev.congr (fun k => by rw [if_neg (by simp)]) hno
  | true =>
    by_cases h2 : l.length ≤ 60
    · rw [decide_eq_true h2]
      refine Ev.congr (f := fun k => (escape_Clean.f k v false).bind fun t => line_Formed.j0 k (t != 0) nm l v) (fun k => by rw [if_pos rfl, if_neg (by omega)]) ?_
      refine Ev.bind (escClean v false hv) ?_
      by_cases h3 : cleanR false v.data.toList = 0
      · rw [decide_eq_true h3, h3]
        have := formL_ev nm v l h2 hs l.length 0 (by omega)
        rw [List.drop_zero, List.take_zero] at this
        exact Ev.step (fun k => by simp only [line_Formed.j0]; rfl) this
      · rw [decide_eq_false h3]
        have e : (cleanR false v.data.toList != 0) = true := by simpa using h3
        rw [e]; exact hno
    · rw [decide_eq_false h2]
      exact Ev.congr (fun k => by rw [if_pos rfl, if_pos (by omega)]) hno
end Go.Proofs.YtdojmdbaiddkgaaGreatDoor.Pure
end
section
set_option linter.unusedVariables false
set_option linter.unusedSimpArgs false
set_option linter.unusedSectionVars false
namespace Go.Proofs.YtdojmdbaiddkgaaGreatDoor.Pure
open Go.RowKit Go.Proofs.YtdojmdbaiddkgaaGreatDoor.Print Go.Proofs.YtdojmdbaiddkgaaGreatDoorW.PrintWords Go.Proofs.YtdojmdbaiddkgaaGreatDoorW.PrintLast Go.Proofs.YtdojmdbaiddkgaaGreatDoorW.PrintMore
theorem nil_of (s : ByteArray) (h : s.size = 0) : s.data.toList = [] := by
  apply List.length_eq_zero_iff.1; rw [Array.length_toList]; exact h
theorem ext_one (s : ByteArray) : (s.extract 1 s.size).data.toList = s.data.toList.drop 1 := by
  rw [ByteArray.data_extract, Array.toList_extract, List.extract_eq_take_drop]
  exact List.take_of_length_le (by rw [List.length_drop, Array.length_toList]; exact Nat.le_refl _)
def qB (c : UInt8) : Bool := c == 34 || c == 58 || c == 59 || c == 44
def openR (s : ByteArray) : ByteArray × Int := if s.data.toList.any qB = true then (⟨#[]⟩, 7) else (⟨(carL s.data.toList).toArray⟩, 0)
theorem contains_any (l : List UInt8) : Lib.containsAny l [34, 58, 59, 44] = l.any qB := by
  unfold Lib.containsAny
  induction l with
  | nil => rfl
  | cons b t ih =>
    have hge := Lib.indexAny_ge [34, 58, 59, 44] t
    have hq : ([34, 58, 59, 44] : List UInt8).contains b = qB b := by
      simp [qB, List.contains_cons, Bool.or_assoc]; rfl
    rw [List.any_cons, ← ih, Lib.indexAny, hq]
    cases hb : qB b
    · simp only [Bool.false_eq_true, if_false, Bool.false_or]
      by_cases h1 : Lib.indexAny t [34, 58, 59, 44] = -1
      · rw [h1]; rfl
      · have : (Lib.indexAny t [34, 58, 59, 44] == -1) = false := beq_eq_false_iff_ne.2 h1
        rw [this]
        have h0 : 0 ≤ Lib.indexAny t [34, 58, 59, 44] := by omega
        simp [h0]; omega
    · simp
theorem wrap_sub (m c : Nat) (h : m ≤ 140737488351232) (hc : c ≤ m) : wrap64 ((m : Int) - (c : Int)) = ((m - c : Nat) : Int) := by unfold wrap64; omega
/-- What is read of a parameter's value. -/
def valB (s : ByteArray) : ByteArray × Int :=
  if s.data.toList.getD 0 0 = 34 then
    (if s.size < 2 then (⟨#[]⟩, 7) else if Lib.indexByte (s.data.toList.drop 1) 34 = ((s.size - 2 : Nat) : Int) then (⟨(carL (s.extract 1 (s.size - 1)).data.toList).toArray⟩, 0) else (⟨#[]⟩, 7))
  else openR s
def valA (s : ByteArray) : ByteArray × Int := if cleanR false s.data.toList = 0 then valB s else (⟨#[]⟩, cleanR false s.data.toList)
theorem has_prefix (s : ByteArray) : strings_HasPrefix.f s ⟨#[34]⟩ = some (decide (s.data.toList.getD 0 0 = 34)) := by
  have h1 : ((⟨#[34]⟩ : ByteArray).size : Int) = 1 := rfl
  simp only [strings_HasPrefix.f, stringslite_HasPrefix.f, h1]
  by_cases hz : 1 ≤ s.size
  · rw [if_pos (by omega), if_pos (by omega), if_pos (by omega)]
    simp only [Option.bind_some]
    congr 1
    have e : (s.extract 0 (1 : Int).toNat).toList = [s.data.toList.getD 0 0] := by
      rw [Lib.toList_data, show (1 : Int).toNat = 1 from rfl, Lib.extract_from_zero]
      have := drop_at s 0 (by omega)
      rw [List.drop_zero] at this
      rw [this]; rfl
    rw [e, Lib.toList_data]
    by_cases h : s.data.toList.getD 0 0 = 34
    · rw [h]; rfl
    · rw [decide_eq_false h]; exact beq_eq_false_iff_ne.2 (by intro e; exact h (List.head_eq_of_cons_eq e))
  · rw [if_neg (by omega)]
    have : s.data.toList = [] := nil_of s (by omega)
    rw [this]; rfl
theorem esc_value (s : ByteArray) (hs : s.size < 4294967281) : Ev (fun k => escape_Value.f k s) (valA s) := by
  refine Ev.bind (escClean s false (by omega)) ?_
  unfold valA
  by_cases h0 : cleanR false s.data.toList = 0
  case neg => simp only [if_neg h0]; exact Ev.now _
  simp only [if_pos h0, has_prefix, Option.bind_some]
  unfold valB
  by_cases h34 : s.data.toList.getD 0 0 = 34
  · have hz : 1 ≤ s.size := by
      rcases Nat.eq_zero_or_pos s.size with h | h
      · have : s.data.toList = [] := nil_of s (by omega)
        rw [this] at h34; exact absurd h34 (by decide)
      · omega
    rw [if_pos h34]
    simp only [decide_eq_true h34, if_true]
    by_cases h2 : s.size < 2
    · simp only [if_pos h2, if_pos (show (s.size : Int) < 2 by omega)]; exact Ev.now _
    · have e1 : (s.extract 1 s.size).data.toList = s.data.toList.drop 1 := ext_one s
      have e2 : wrap64 ((s.size : Int) - 2) = ((s.size - 2 : Nat) : Int) := wrap_sub s.size 2 (by omega) (by omega)
      have e3 : wrap64 ((s.size : Int) - 1) = ((s.size - 1 : Nat) : Int) := wrap_sub s.size 1 (by omega) (by omega)
      have e4 : (34 : Int).toNat.toUInt8 = 34 := rfl
      simp only [if_neg h2, if_neg (show ¬ (s.size : Int) < 2 by omega), if_pos (show (1 : Int) ≤ (s.size : Int) by omega), strings_IndexByte.f, Option.bind_some, e1, e2, e3, e4]
      by_cases h3 : Lib.indexByte (s.data.toList.drop 1) 34 = ((s.size - 2 : Nat) : Int)
      · simp only [if_pos h3]
        rw [if_pos (by omega), if_pos (by omega)]
        have e5 : escape_caret.f (s.extract 1 (s.size - 1)) = some ⟨(carL (s.extract 1 (s.size - 1)).data.toList).toArray⟩ := by
          unfold escape_caret.f; rw [if_pos (by rw [ByteArray.size_extract]; omega)]
        simp only [Int.toNat_natCast, e5, Option.bind_some]
        exact Ev.now _
      · simp only [if_neg h3]; exact Ev.now _
  · rw [if_neg h34]
    simp only [decide_eq_false h34, Bool.false_eq_true, if_false]
    have ec : strings_ContainsAny.f s ⟨#[34, 58, 59, 44]⟩ = some (s.data.toList.any qB) := by
      unfold strings_ContainsAny.f
      rw [if_pos ⟨hs, by decide, by decide, by decide⟩, ← contains_any]
    simp only [ec, Option.bind_some]
    unfold openR
    cases s.data.toList.any qB
    · simp only [Bool.false_eq_true, if_false]
      have e5 : escape_caret.f s = some ⟨(carL s.data.toList).toArray⟩ := by
        unfold escape_caret.f; rw [if_pos (by omega)]
      simp only [e5, Option.bind_some]
      exact Ev.now _
    · simp only [if_true]; exact Ev.now _
end Go.Proofs.YtdojmdbaiddkgaaGreatDoor.Pure
end
section
set_option linter.unusedVariables false
set_option linter.unusedSimpArgs false
set_option linter.unusedSectionVars false
namespace Go.Proofs.YtdojmdbaiddkgaaGreatDoor.Pure
open Go.RowKit Go.Proofs.YtdojmdbaiddkgaaGreatDoor.Print Go.Proofs.YtdojmdbaiddkgaaGreatDoorW.PrintWords Go.Proofs.YtdojmdbaiddkgaaGreatDoorW.PrintLast Go.Proofs.YtdojmdbaiddkgaaGreatDoorW.PrintMore
theorem nx_eq (l : List UInt8) (hne : l ≠ []) : nx l = refN l.length (l.getD 0 0).toNat (l.getD 1 0).toNat (l.getD 2 0).toNat (l.getD 3 0).toNat := by
  have : 0 < l.length := List.length_pos_iff.2 hne
  rw [refN_eq _ _ _ _ _ (by omega) (lt256 _ _) (lt256 _ _) (lt256 _ _) (lt256 _ _)]
  unfold nx
  rw [Lib.decodeL_N]
theorem validD_nx (l : List UInt8) (hne : l ≠ []) : Lib.validD l = if nx l = 0 then false else Lib.validD (l.drop (nx l)) := by
  rw [Lib.validD_step l hne]
  by_cases h : (Lib.decodeL l).1 = 65533 ∧ (Lib.decodeL l).2 = 1
  · rw [if_pos h, if_pos ((nx_bad l hne).2 h)]
  · rw [if_neg h, nx_good l h, if_neg (by have := decL_pos l hne; omega)]
def U2 (a b : UInt8) : Prop := (194 ≤ a.toNat ∧ a.toNat < 224) ∧ 128 ≤ b.toNat ∧ b.toNat < 192
def U3 (a b c : UInt8) : Prop := (224 ≤ a.toNat ∧ a.toNat < 240) ∧ ((128 ≤ b.toNat ∧ b.toNat < 192) ∧ 128 ≤ c.toNat ∧ c.toNat < 192) ∧ ¬ (a.toNat = 224 ∧ b.toNat < 160 ∨ a.toNat = 237 ∧ 159 < b.toNat)
def U4 (a b c d : UInt8) : Prop := (240 ≤ a.toNat ∧ a.toNat < 245) ∧ ((128 ≤ b.toNat ∧ b.toNat < 192) ∧ (128 ≤ c.toNat ∧ c.toNat < 192) ∧ 128 ≤ d.toNat ∧ d.toNat < 192) ∧ ¬ (a.toNat = 240 ∧ b.toNat < 144 ∨ a.toNat = 244 ∧ 143 < b.toNat)
theorem valid_2 (a b : UInt8) (t : List UInt8) (h : U2 a b) : Lib.validD (a :: b :: t) = Lib.validD t := by
  obtain ⟨h1, h2⟩ := h
  have e : nx (a :: b :: t) = 2 := by
    rw [nx_eq _ (by simp)]
    simp only [List.getD_cons_zero, List.getD_cons_succ, List.length_cons]
    unfold refN
    rw [if_neg (by omega), if_pos h1, if_neg (by omega), if_pos h2]
  rw [validD_nx _ (by simp), e]; rfl
theorem valid_3 (a b c : UInt8) (t : List UInt8) (h : U3 a b c) : Lib.validD (a :: b :: c :: t) = Lib.validD t := by
  obtain ⟨h1, h2, h3⟩ := h
  have e : nx (a :: b :: c :: t) = 3 := by
    rw [nx_eq _ (by simp)]
    simp only [List.getD_cons_zero, List.getD_cons_succ, List.length_cons]
    unfold refN
    rw [if_neg (by omega), if_neg (by omega), if_pos h1, if_neg (by omega), if_pos h2, if_neg h3]
  rw [validD_nx _ (by simp), e]; rfl
theorem valid_4 (a b c d : UInt8) (t : List UInt8) (h : U4 a b c d) : Lib.validD (a :: b :: c :: d :: t) = Lib.validD t := by
  obtain ⟨h1, h2, h3⟩ := h
  have e : nx (a :: b :: c :: d :: t) = 4 := by
    rw [nx_eq _ (by simp)]
    simp only [List.getD_cons_zero, List.getD_cons_succ, List.length_cons]
    unfold refN
    rw [if_neg (by omega), if_neg (by omega), if_neg (by omega), if_pos h1, if_neg (by omega), if_pos h2, if_neg h3]
  rw [validD_nx _ (by simp), e]; rfl
/-- The code points at the head of a valid text. -/
theorem valid_head (l : List UInt8) (hne : l ≠ []) (h : Lib.validD l = true) :
    (∃ a t, l = a :: t ∧ a.toNat < 128 ∧ Lib.validD t = true) ∨ (∃ a b t, l = a :: b :: t ∧ U2 a b ∧ Lib.validD t = true) ∨
    (∃ a b c t, l = a :: b :: c :: t ∧ U3 a b c ∧ Lib.validD t = true) ∨ (∃ a b c d t, l = a :: b :: c :: d :: t ∧ U4 a b c d ∧ Lib.validD t = true) := by
  have hv := validD_nx l hne
  rw [h] at hv
  have hn : nx l ≠ 0 := by intro e; rw [if_pos e] at hv; cases hv
  rw [if_neg hn, nx_eq l hne] at hv
  rw [nx_eq l hne] at hn
  unfold refN at hn hv
  cases l with
  | nil => exact absurd rfl hne
  | cons a l1 =>
    simp only [List.getD_cons_zero, List.getD_cons_succ, List.length_cons] at hn hv
    by_cases c1 : a.toNat < 128
    · rw [if_pos c1] at hv; exact .inl ⟨a, l1, rfl, c1, hv.symm⟩
    rw [if_neg c1] at hn hv
    by_cases c2 : 194 ≤ a.toNat ∧ a.toNat < 224
    · rw [if_pos c2] at hn hv
      cases l1 with
      | nil => simp at hn
      | cons b t =>
        simp only [List.getD_cons_zero, List.getD_cons_succ, List.length_cons] at hn hv
        rw [if_neg (by omega)] at hn hv
        by_cases c3 : 128 ≤ b.toNat ∧ b.toNat < 192
        · rw [if_pos c3] at hv; exact .inr (.inl ⟨a, b, t, rfl, ⟨c2, c3⟩, hv.symm⟩)
        · rw [if_neg c3] at hn; exact absurd rfl hn
    rw [if_neg c2] at hn hv
    by_cases c3 : 224 ≤ a.toNat ∧ a.toNat < 240
    · rw [if_pos c3] at hn hv
      rcases l1 with _ | ⟨b, _ | ⟨c, t⟩⟩
      · simp at hn
      · simp at hn
      · simp only [List.getD_cons_zero, List.getD_cons_succ, List.length_cons] at hn hv
        rw [if_neg (by omega)] at hn hv
        split at hn
        · rename_i c4
          rw [if_pos c4] at hv
          split at hn
          · exact absurd rfl hn
          · rename_i c5
            rw [if_neg c5] at hv
            exact .inr (.inr (.inl ⟨a, b, c, t, rfl, ⟨c3, c4, c5⟩, hv.symm⟩))
        · exact absurd rfl hn
    rw [if_neg c3] at hn hv
    by_cases c4 : 240 ≤ a.toNat ∧ a.toNat < 245
    · rw [if_pos c4] at hn hv
      rcases l1 with _ | ⟨b, _ | ⟨c, _ | ⟨d, t⟩⟩⟩
      · simp at hn
      · simp at hn
      · simp at hn
      · simp only [List.getD_cons_zero, List.getD_cons_succ, List.length_cons] at hn hv
        rw [if_neg (by omega)] at hn hv
        split at hn
        · rename_i c5
          rw [if_pos c5] at hv
          split at hn
          · exact absurd rfl hn
          · rename_i c6
            rw [if_neg c6] at hv
            exact .inr (.inr (.inr ⟨a, b, c, d, t, rfl, ⟨c4, c5, c6⟩, hv.symm⟩))
        · exact absurd rfl hn
    rw [if_neg c4] at hn
    exact absurd rfl hn
theorem ba_backB (s : ByteArray) : (⟨s.data.toList.toArray⟩ : ByteArray) = s := by cases s; simp
theorem ba_sizeB (l : List UInt8) : (⟨l.toArray⟩ : ByteArray).size = l.length := by show l.toArray.size = _; rw [List.size_toArray]
theorem clean_true {l : List UInt8} (h : cleanR true l = 0) : Lib.validD l = true ∧ l.all (okB true) = true := by
  unfold cleanR at h
  by_cases h1 : Lib.validD l = true
  · rw [if_pos h1] at h
    by_cases h2 : l.all (okB true) = true
    · exact ⟨h1, h2⟩
    · rw [if_neg h2] at h; exact absurd h (by decide)
  · rw [if_neg h1] at h; exact absurd h (by decide)
theorem clean_of {f : Bool} {l : List UInt8} (h1 : Lib.validD l = true) (h2 : l.all (okB f) = true) : cleanR f l = 0 := by
  unfold cleanR; rw [if_pos h1, if_pos h2]
theorem parB_high (c : UInt8) (h : 128 ≤ c.toNat) : parB c = [c] := by
  have n1 : c ≠ 94 := by rintro rfl; exact absurd h (by decide)
  have n2 : c ≠ 10 := by rintro rfl; exact absurd h (by decide)
  have n3 : c ≠ 34 := by rintro rfl; exact absurd h (by decide)
  unfold parB; rw [if_neg n1, if_neg n2, if_neg n3]
theorem parB_low (c : UInt8) (h : c.toNat < 128) (s : List UInt8) : Lib.validD (parB c ++ s) = Lib.validD s := by
  unfold parB
  split
  · show Lib.validD (94 :: 94 :: s) = _
    rw [Lib.validD_cons _ _ (by decide), Lib.validD_cons _ _ (by decide)]
  split
  · show Lib.validD (94 :: 110 :: s) = _
    rw [Lib.validD_cons _ _ (by decide), Lib.validD_cons _ _ (by decide)]
  split
  · show Lib.validD (94 :: 39 :: s) = _
    rw [Lib.validD_cons _ _ (by decide), Lib.validD_cons _ _ (by decide)]
  · exact Lib.validD_cons _ _ h
theorem par_valid : ∀ (n : Nat) (l s : List UInt8), l.length ≤ n → Lib.validD l = true → Lib.validD (parT l ++ s) = Lib.validD s
  | _, [], s, _, _ => rfl
  | 0, a :: t, s, hn, _ => by simp at hn
  | n + 1, x :: l, s, hn, h => by
    rcases valid_head (x :: l) (by simp) h with ⟨a, t, e, ha, hv⟩ | ⟨a, b, t, e, ha, hv⟩ | ⟨a, b, c, t, e, ha, hv⟩ | ⟨a, b, c, d, t, e, ha, hv⟩
    · have hl := congrArg List.length e
      simp only [List.length_cons] at hl hn
      rw [e, parT_cons, List.append_assoc, parB_low a ha]
      exact par_valid n t s (by omega) hv
    · have hl := congrArg List.length e
      simp only [List.length_cons] at hl hn
      rw [e, parT_cons, parT_cons, parB_high a (by have := ha.1; omega), parB_high b (by have := ha.2; omega)]
      show Lib.validD (a :: b :: (parT t ++ s)) = _
      rw [valid_2 _ _ _ ha]
      exact par_valid n t s (by omega) hv
    · have hl := congrArg List.length e
      simp only [List.length_cons] at hl hn
      obtain ⟨h1, h2, h3⟩ := ha
      rw [e, parT_cons, parT_cons, parT_cons, parB_high a (by omega), parB_high b (by omega), parB_high c (by omega)]
      show Lib.validD (a :: b :: c :: (parT t ++ s)) = _
      rw [valid_3 _ _ _ _ ⟨h1, h2, h3⟩]
      exact par_valid n t s (by omega) hv
    · have hl := congrArg List.length e
      simp only [List.length_cons] at hl hn
      obtain ⟨h1, h2, h3⟩ := ha
      rw [e, parT_cons, parT_cons, parT_cons, parT_cons, parB_high a (by omega), parB_high b (by omega), parB_high c (by omega), parB_high d (by omega)]
      show Lib.validD (a :: b :: c :: d :: (parT t ++ s)) = _
      rw [valid_4 _ _ _ _ _ ⟨h1, h2, h3⟩]
      exact par_valid n t s (by omega) hv
theorem parB_ok (c : UInt8) (h : okB true c = true) : (parB c).all (okB false) = true := by
  unfold parB
  by_cases h94 : c = 94
  · rw [if_pos h94]; rfl
  rw [if_neg h94]
  by_cases h10 : c = 10
  · rw [if_pos h10]; rfl
  rw [if_neg h10]
  by_cases h34 : c = 34
  · rw [if_pos h34]; rfl
  rw [if_neg h34]
  have h10b : (c == 10) = false := beq_eq_false_iff_ne.2 h10
  have hc : okB false c = true := by
    unfold okB at h ⊢
    rw [h10b] at h ⊢
    simpa using h
  simp [hc]
theorem parT_ok (l : List UInt8) (h : l.all (okB true) = true) : (parT l).all (okB false) = true := by
  induction l with
  | nil => rfl
  | cons c t ih =>
    rw [List.all_cons, Bool.and_eq_true] at h
    rw [parT_cons, List.all_append, parB_ok c h.1, ih h.2]; rfl
theorem car_par : ∀ (l : List UInt8), carL (parT l) = l
  | [] => rfl
  | c :: t => by
    rw [parT_cons]
    unfold parB
    by_cases h94 : c = 94
    · rw [if_pos h94, h94]
      show carL (94 :: 94 :: parT t) = _
      simp [carL, car_par t]
    rw [if_neg h94]
    by_cases h10 : c = 10
    · rw [if_pos h10, h10]
      show carL (94 :: 110 :: parT t) = _
      simp [carL, car_par t]
    rw [if_neg h10]
    by_cases h34 : c = 34
    · rw [if_pos h34, h34]
      show carL (94 :: 39 :: parT t) = _
      simp [carL, car_par t]
    rw [if_neg h34]
    show carL (c :: parT t) = _
    have : carL (c :: parT t) = c :: carL (parT t) := by cases parT t <;> simp [carL, h94]
    rw [this, car_par t]
theorem par_any : ∀ (l : List UInt8), (parT l).any qB = l.any quoB
  | [] => rfl
  | c :: t => by
    rw [parT_cons, List.any_append, par_any t, List.any_cons]
    congr 1
    unfold parB
    by_cases h94 : c = 94
    · rw [if_pos h94, h94]; rfl
    rw [if_neg h94]
    by_cases h10 : c = 10
    · rw [if_pos h10, h10]; rfl
    rw [if_neg h10]
    by_cases h34 : c = 34
    · rw [if_pos h34, h34]; rfl
    rw [if_neg h34, List.any_cons, List.any_nil, Bool.or_false]
    unfold qB quoB
    rw [beq_eq_false_iff_ne.2 h34, Bool.false_or]
theorem par_34 : ∀ (l : List UInt8), (parT l).any (· == 34) = false
  | [] => rfl
  | c :: t => by
    rw [parT_cons, List.any_append, par_34 t, Bool.or_false]
    unfold parB
    by_cases h94 : c = 94
    · rw [if_pos h94]; rfl
    rw [if_neg h94]
    by_cases h10 : c = 10
    · rw [if_pos h10]; rfl
    rw [if_neg h10]
    by_cases h34 : c = 34
    · rw [if_pos h34]; rfl
    rw [if_neg h34, List.any_cons, List.any_nil, Bool.or_false]
    exact beq_eq_false_iff_ne.2 h34
theorem head_34 (l : List UInt8) (h : l.any (· == 34) = false) : l.getD 0 0 ≠ 34 := by
  cases l with
  | nil => decide
  | cons a t =>
    rw [List.any_cons, Bool.or_eq_false_iff] at h
    exact beq_eq_false_iff_ne.1 h.1
theorem idx_34 : ∀ (l : List UInt8), l.any (· == 34) = false → Lib.indexByte (l ++ [34]) 34 = (l.length : Int)
  | [], _ => rfl
  | c :: t, h => by
    rw [List.any_cons, Bool.or_eq_false_iff] at h
    have ih := idx_34 t h.2
    show Lib.indexByte (c :: (t ++ [34])) 34 = _
    unfold Lib.indexByte
    rw [h.1, ih]
    have hn : (((t.length : Nat) : Int) == -1) = false := beq_eq_false_iff_ne.2 (by omega)
    rw [hn]
    simp
theorem value_par (s : ByteArray) (h : cleanR true s.data.toList = 0) : valA (parW s) = (s, 0) := by
  obtain ⟨h1, h2⟩ := clean_true h
  have hd : (parW s).data.toList = parL s.data.toList := rfl
  have hv := fun t => par_valid s.data.toList.length s.data.toList t (Nat.le_refl _) h1
  have hok := parT_ok s.data.toList h2
  have hcar := car_par s.data.toList
  have hany := par_any s.data.toList
  have h34 := par_34 s.data.toList
  have hback := ba_backB s
  have hsz : (parW s).size = (parL s.data.toList).length := ba_sizeB _
  unfold valA
  by_cases hq : s.data.toList.any quoB = true
  · have hL : parL s.data.toList = 34 :: (parT s.data.toList ++ [34]) := by unfold parL; rw [if_pos hq]; rfl
    have hc : cleanR false (parW s).data.toList = 0 := by
      rw [hd, hL]
      refine clean_of ?_ ?_
      · rw [Lib.validD_cons _ _ (by decide), hv [34]]; rfl
      · rw [List.all_cons, List.all_append, hok]; rfl
    rw [if_pos hc]
    unfold valB
    have hlen : (parW s).size = (parT s.data.toList).length + 2 := by rw [hsz, hL]; simp
    have hex : ((parW s).extract 1 ((parW s).size - 1)).data.toList = parT s.data.toList := by
      rw [ByteArray.data_extract, Array.toList_extract, List.extract_eq_take_drop, hd, hL, hlen]
      simp
    rw [if_pos (by rw [hd, hL]; rfl), if_neg (by omega), if_pos (by rw [hd, hL]; show Lib.indexByte (parT s.data.toList ++ [34]) 34 = _; rw [idx_34 _ h34, hlen]; rfl), hex, hcar, hback]
  · have hL : parL s.data.toList = parT s.data.toList := by unfold parL; rw [if_neg hq]
    have hc : cleanR false (parW s).data.toList = 0 := by
      rw [hd, hL]
      refine clean_of ?_ hok
      have := hv []
      rw [List.append_nil] at this
      rw [this]; rfl
    rw [if_pos hc]
    unfold valB openR
    rw [if_neg (by rw [hd, hL]; exact head_34 _ h34), hd, hL, hany, if_neg hq, hcar, hback]
end Go.Proofs.YtdojmdbaiddkgaaGreatDoor.Pure
end
section
set_option linter.unusedVariables false
set_option linter.unusedSimpArgs false
set_option linter.unusedSectionVars false
namespace Go.Proofs.YtdojmdbaiddkgaaGreatDoor.Pure
open Go.RowKit Go.Proofs.YtdojmdbaiddkgaaGreatDoor.Print Go.Proofs.YtdojmdbaiddkgaaGreatDoorW.PrintWords Go.Proofs.YtdojmdbaiddkgaaGreatDoorW.PrintLast Go.Proofs.YtdojmdbaiddkgaaGreatDoorW.PrintMore
def fewV : List ByteArray → Nat
  | [] => 0
  | x :: t => x.size + 1 + fewV t
def fewP : List RP → Nat
  | [] => 0
  | p :: t => p.f0.size + 1 + fewV p.f1 + fewP t
theorem wrapN (s c : Nat) (h : s + c ≤ 4611686018427387904) : wrap64 ((s : Int) + (c : Int)) = ((s + c : Nat) : Int) := by unfold wrap64; omega
theorem wrap2 (s c : Nat) (h : s + c + 1 ≤ 4611686018427387904) : wrap64 (wrap64 ((s : Int) + (c : Int)) + 1) = ((s + c + 1 : Nat) : Int) := by
  rw [wrapN s c (by omega)]; exact wrapN (s + c) 1 h
theorem few1_sum (nm v : ByteArray) (l : List RP) (i : Nat) (hi : i < l.length) (hl : l.length ≤ 60) (hv : l[i].f1.length ≤ 60)
    (next : ∀ s : Nat, s + fewP (l.drop (i + 1)) ≤ 4611686018427387904 → Ev (fun k => trystlaw10_Few.l0 k (s : Int) (l.length : Int) ((i + 1 : Nat) : Int) nm l v) (decide (s + fewP (l.drop (i + 1)) ≤ 5000))) :
    ∀ (d j s : Nat), j + d = l[i].f1.length → s + fewV (l[i].f1.drop j) + fewP (l.drop (i + 1)) ≤ 4611686018427387904 →
      Ev (fun k => trystlaw10_Few.l1 k (s : Int) (i : Int) (l.length : Int) (i : Int) (l[i].f1.length : Int) (j : Int) nm l v) (decide (s + fewV (l[i].f1.drop j) + fewP (l.drop (i + 1)) ≤ 5000)) := by
  intro d
  induction d with
  | zero =>
    intro j s hj hb
    rw [List.drop_eq_nil_of_le (by omega), fewV, Nat.add_zero] at hb ⊢
    by_cases h5 : s ≤ 5000
    · exact Ev.step (fun k => by simp only [trystlaw10_Few.l1]; rw [if_neg (by omega), if_neg (by omega), wrapS i _ hi (by omega)]) (next s hb)
    · rw [decide_eq_false (by omega)]
      exact Ev.step (f := fun _ => some false) (fun k => by simp only [trystlaw10_Few.l1]; rw [if_neg (by omega), if_pos (by omega)]) (Ev.now _)
  | succ d ih =>
    intro j s hj hb
    have hjl : j < l[i].f1.length := by omega
    rw [List.drop_eq_getElem_cons hjl, fewV] at hb ⊢
    have := ih (j + 1) (s + l[i].f1[j].size + 1) (by omega) (by omega)
    rw [show s + (l[i].f1[j].size + 1 + fewV (l[i].f1.drop (j + 1))) + fewP (l.drop (i + 1)) = s + l[i].f1[j].size + 1 + fewV (l[i].f1.drop (j + 1)) + fewP (l.drop (i + 1)) by omega]
    exact Ev.step (fun k => by simp only [trystlaw10_Few.l1]; rw [if_pos (by omega), if_pos (by omega), if_pos (by omega), if_pos (by omega), rdR l i hi, if_pos (by omega), wrapS j _ hjl (by omega), rdS _ j hjl, wrap2 s _ (by omega)]) this
theorem few_sum (nm v : ByteArray) (l : List RP) (hl : l.length ≤ 60) (hv : ∀ x ∈ l, x.f1.length ≤ 60) :
    ∀ (d i s : Nat), i + d = l.length → s + fewP (l.drop i) ≤ 4611686018427387904 → Ev (fun k => trystlaw10_Few.l0 k (s : Int) (l.length : Int) (i : Int) nm l v) (decide (s + fewP (l.drop i) ≤ 5000)) := by
  intro d
  induction d with
  | zero =>
    intro i s hi hb
    rw [List.drop_eq_nil_of_le (by omega), fewP, Nat.add_zero]
    exact Ev.step (f := fun _ => some (decide (s ≤ 5000))) (fun k => by simp only [trystlaw10_Few.l0]; rw [if_neg (by omega)]; exact congrArg some (decide_eq_decide.2 (by omega))) (Ev.now _)
  | succ d ih =>
    intro i s hi hb
    have hil : i < l.length := by omega
    rw [List.drop_eq_getElem_cons hil, fewP] at hb ⊢
    have := few1_sum nm v l i hil hl (hv _ (List.getElem_mem hil)) (fun s h => ih (i + 1) s (by omega) h) l[i].f1.length 0 (s + l[i].f0.size + 1) (by omega) (by rw [List.drop_zero]; omega)
    rw [List.drop_zero] at this
    rw [show s + (l[i].f0.size + 1 + fewV l[i].f1 + fewP (l.drop (i + 1))) = s + l[i].f0.size + 1 + fewV l[i].f1 + fewP (l.drop (i + 1)) by omega]
    exact Ev.step (fun k => by simp only [trystlaw10_Few.l0]; rw [if_pos (by omega), if_pos (by omega), if_pos (by omega), rdR l i hil, wrap2 s _ (by omega)]; rfl) this
theorem fewV_le (B : Nat) : ∀ l : List ByteArray, (∀ x ∈ l, x.size ≤ B) → fewV l ≤ l.length * (B + 1)
  | [], _ => by simp [fewV]
  | x :: t, h => by
    have h1 := h x List.mem_cons_self
    have h2 := fewV_le B t (fun y hy => h y (List.mem_cons_of_mem _ hy))
    rw [fewV, List.length_cons, Nat.add_mul]; omega
theorem fewP_le : ∀ l : List RP, (∀ p ∈ l, ParB' (toP p) ∧ p.f1.length ≤ 60) → fewP l ≤ l.length * 9000000000000000
  | [], _ => by simp [fewP]
  | p :: t, h => by
    have h1 := h p List.mem_cons_self
    have h2 := fewP_le t (fun y hy => h y (List.mem_cons_of_mem _ hy))
    have h3 := fewV_le 140737488351232 p.f1 h1.1.2
    have h4 : p.f0.size ≤ 140737488351232 := h1.1.1
    have h5 : p.f1.length * (140737488351232 + 1) ≤ 60 * (140737488351232 + 1) := Nat.mul_le_mul_right _ h1.2
    rw [fewP, List.length_cons, Nat.add_mul]; omega
theorem okPs_all : ∀ (l seen : List LP), okPs seen l = true → ∀ p ∈ l, parR p.f0 p.f1 = true
  | [], _, _, p, hp => by simp at hp
  | q :: t, seen, h, p, hp => by
    rw [okPs, Bool.and_eq_true, Bool.and_eq_true] at h
    rcases List.mem_cons.1 hp with rfl | hp
    · exact h.1
    · exact okPs_all t _ h.2.2 p hp
theorem parR_of {nm : ByteArray} {l : List ByteArray} (h : parR nm l = true) : nameR nm = true ∧ 1 ≤ l.length ∧ l.length ≤ 60 ∧ ∀ x ∈ l, cleanR true x.data.toList = 0 := by
  unfold parR at h
  rw [Bool.and_eq_true, Bool.and_eq_true, Bool.and_eq_true] at h
  exact ⟨h.1, of_decide_eq_true h.2.1, of_decide_eq_true h.2.2.1, fun x hx => of_decide_eq_true (List.all_eq_true.1 h.2.2.2 x hx)⟩
theorem formR_of {nm : ByteArray} {l : List LP} {v : ByteArray} (h : formR nm l v = true) : nameR nm = true ∧ l.length ≤ 60 ∧ cleanR false v.data.toList = 0 ∧ okPs [] l = true := by
  unfold formR at h
  rw [Bool.and_eq_true, Bool.and_eq_true, Bool.and_eq_true] at h
  exact ⟨h.1, of_decide_eq_true h.2.1, of_decide_eq_true h.2.2.1, h.2.2.2⟩
theorem parT_le : ∀ l : List UInt8, (parT l).length ≤ 2 * l.length
  | [] => by simp [parT]
  | c :: t => by
    have := parT_le t
    rw [parT_cons, List.length_append, List.length_cons]
    have : (parB c).length ≤ 2 := by unfold parB; split <;> (try split) <;> (try split) <;> simp
    omega
theorem parL_le (l : List UInt8) : (parL l).length ≤ 2 * l.length + 2 := by
  have := parT_le l
  unfold parL; split
  · simp; omega
  · omega
theorem valsT_le : ∀ (l : List ByteArray) (b : UInt8), (valsT l b).length ≤ 3 * fewV l
  | [], b => by simp [valsT]
  | x :: t, b => by
    have h1 := valsT_le t 44
    have h2 := parL_le x.data.toList
    have e : x.data.toList.length = x.size := by simp
    rw [valsT, fewV, List.length_append, List.length_cons]; omega
theorem parsT_le : ∀ l : List RP, (parsT (l.map toP)).length ≤ 3 * fewP l
  | [] => by simp [parsT]
  | p :: t => by
    have h1 := parsT_le t
    have h2 := valsT_le p.f1 61
    have e : p.f0.data.toList.length = p.f0.size := by simp
    rw [List.map_cons, parsT, fewP]
    show (59 :: p.f0.data.toList ++ valsT p.f1 61 ++ parsT (t.map toP)).length ≤ _
    rw [List.length_append, List.length_append, List.length_cons]; omega
theorem lineT_le (nm v : ByteArray) (l : List RP) : (lineT nm (l.map toP) v).length ≤ 3 * (nm.size + v.size + fewP l) + 1 := by
  have h1 := parsT_le l
  have e : nm.data.toList.length = nm.size := by simp
  have e2 : v.data.toList.length = v.size := by simp
  unfold lineT
  rw [List.length_append, List.length_append, List.length_cons]; omega
theorem clean_evS : ∀ l : List ByteArray, (∀ x ∈ l, x.size ≤ 140737488351232 ∧ cleanR true x.data.toList = 0) → ∃ K, ∀ k, K ≤ k → ∀ x ∈ l, escape_Clean.f k x true = some 0
  | [], _ => ⟨0, fun _ _ x hx => by simp at hx⟩
  | x :: t, h => by
    obtain ⟨K, hK⟩ := clean_evS t (fun y hy => h y (List.mem_cons_of_mem _ hy))
    have hx := h x List.mem_cons_self
    obtain ⟨K2, hK2⟩ := escClean x true hx.1
    rw [hx.2] at hK2
    refine ⟨max K K2, fun k hk y hy => ?_⟩
    rcases List.mem_cons.1 hy with rfl | hy
    · exact hK2 k (by omega)
    · exact hK k (by omega) y hy
theorem clean_evP : ∀ l : List LP, (∀ p ∈ l, ∀ x ∈ p.f1, x.size ≤ 140737488351232 ∧ cleanR true x.data.toList = 0) → ∃ K, ∀ k, K ≤ k → cleanAll k l = true
  | [], _ => ⟨0, fun _ _ => rfl⟩
  | p :: t, h => by
    obtain ⟨K, hK⟩ := clean_evP t (fun y hy => h y (List.mem_cons_of_mem _ hy))
    obtain ⟨K2, hK2⟩ := clean_evS p.f1 (h p List.mem_cons_self)
    refine ⟨max K K2, fun k hk => ?_⟩
    have h1 := hK k (by omega)
    unfold cleanAll at h1 ⊢
    rw [List.all_cons, h1, Bool.and_true]
    exact List.all_eq_true.2 fun x hx => decide_eq_true (hK2 k (by omega) x hx)
def printR (nm : ByteArray) (l : List LP) (v : ByteArray) : ByteArray × Int := if formR nm l v = true then lineR nm l v else (⟨#[]⟩, 1)
theorem printL (nm v : ByteArray) (l : List LP) (hn : nm.size ≤ 140737488351232) (hv : v.size ≤ 140737488351232) (hs : ∀ p ∈ l, ParB' p) (hlen : formR nm l v = true → (lineT nm l v).length ≤ 1000000000) : Ev (fun k => line_Print.f k nm l v) (printR nm l v) := by
  refine Ev.bind (formL nm v l hn hv hs) ?_
  unfold printR
  cases hf : formR nm l v with
  | false => exact Ev.congr (f := fun _ => some (⟨#[]⟩, 1)) (fun k => by rw [if_neg (by simp)]) (by rw [if_neg (by simp)]; exact Ev.now _)
  | true =>
    have h1 := hlen hf
    have h2 := formR_of hf
    obtain ⟨K, hK⟩ := clean_evP l (fun p hp x hx => ⟨(hs p hp).2 x hx, (parR_of (okPs_all l [] h2.2.2.2 p hp)).2.2.2 x hx⟩)
    rw [if_pos rfl]
    exact ⟨K, fun k hk => by show (if true = true then _ else _) = _; rw [if_pos rfl, if_pos ⟨hK k hk, h1⟩]⟩
end Go.Proofs.YtdojmdbaiddkgaaGreatDoor.Pure
end
section
set_option linter.unusedVariables false
set_option linter.unusedSimpArgs false
set_option linter.unusedSectionVars false
namespace Go.Proofs.YtdojmdbaiddkgaaGreatDoor.Pure
open Go.RowKit Go.Proofs.YtdojmdbaiddkgaaGreatDoor.Print Go.Proofs.YtdojmdbaiddkgaaGreatDoorW.PrintWords Go.Proofs.YtdojmdbaiddkgaaGreatDoorW.PrintLast Go.Proofs.YtdojmdbaiddkgaaGreatDoorW.PrintMore
def nlB (c : UInt8) : Bool := c == 13 || c == 10
theorem contains_nl (l : List UInt8) : Lib.containsAny l [13, 10] = l.any nlB := by
  unfold Lib.containsAny
  induction l with
  | nil => rfl
  | cons b t ih =>
    have hge := Lib.indexAny_ge [13, 10] t
    have hq : ([13, 10] : List UInt8).contains b = nlB b := by
      simp [nlB, List.contains_cons, Bool.or_assoc]; rfl
    rw [List.any_cons, ← ih, Lib.indexAny, hq]
    cases hb : nlB b
    · simp only [Bool.false_eq_true, if_false, Bool.false_or]
      by_cases h1 : Lib.indexAny t [13, 10] = -1
      · rw [h1]; rfl
      · have : (Lib.indexAny t [13, 10] == -1) = false := beq_eq_false_iff_ne.2 h1
        rw [this]
        have h0 : 0 ≤ Lib.indexAny t [13, 10] := by omega
        simp [h0]; omega
    · simp
end Go.Proofs.YtdojmdbaiddkgaaGreatDoor.Pure
end
section
set_option linter.unusedVariables false
set_option linter.unusedSimpArgs false
set_option linter.unusedSectionVars false
namespace Go.Proofs.YtdojmdbaiddkgaaGreatDoor.Pure
open Go.RowKit Go.Proofs.YtdojmdbaiddkgaaGreatDoor.Print Go.Proofs.YtdojmdbaiddkgaaGreatDoorW.PrintWords Go.Proofs.YtdojmdbaiddkgaaGreatDoorW.PrintLast Go.Proofs.YtdojmdbaiddkgaaGreatDoorW.PrintMore
def LS (x : RL) : Prop := x.f0.size ≤ 140737488351232 ∧ x.f2.size ≤ 140737488351232 ∧ ∀ p ∈ x.f1, ParB' (toP p)
mutual
def TS : RT → Prop
  | ⟨n, l, k⟩ => n.size ≤ 140737488351232 ∧ (∀ x ∈ l, LS x) ∧ TSs k
def TSs : List RT → Prop
  | [] => True
  | t :: r => TS t ∧ TSs r
end
theorem TSs_all : ∀ l : List RT, TSs l → ∀ t ∈ l, TS t
  | [], _, t, ht => by simp at ht
  | x :: r, h, t, ht => by
    simp only [TSs] at h
    rcases List.mem_cons.1 ht with rfl | ht
    · exact h.1
    · exact TSs_all r h.2 t ht
theorem TS_of {t : RT} (h : TS t) : t.f0.size ≤ 140737488351232 ∧ (∀ x ∈ t.f1, LS x) ∧ ∀ x ∈ t.f2, TS x := by
  obtain ⟨n, l, k⟩ := t
  simp only [TS] at h
  exact ⟨h.1, h.2.1, TSs_all k h.2.2⟩
theorem rdPT (ks : List RT) (i : Nat) (h : i < ks.length) : rd_T31 (ks.map toT) (i : Int) = ⟨ks[i].f0, ks[i].f1.map toL, ks[i].f2.map toT⟩ := by
  unfold rd_T31
  rw [Int.toNat_natCast, List.getD_eq_getElem?_getD, List.getElem?_map, List.getElem?_eq_getElem h]
  exact toT_f _
theorem rdPLm (l : List RL) (i : Nat) (h : i < l.length) : rd_T49 (l.map toL) (i : Int) = ⟨l[i].f0, l[i].f1.map toP, l[i].f2⟩ := by
  unfold rd_T49
  rw [Int.toNat_natCast, List.getD_eq_getElem?_getD, List.getElem?_map, List.getElem?_eq_getElem h]
  rfl
mutual
def cnt : RT → Int
  | ⟨_, l, k⟩ => cnts k (wrap64 (2 + (l.length : Int)))
def cnts : List RT → Int → Int
  | [], a => a
  | t :: r, a => cnts r (wrap64 (a + cnt t))
end
theorem cnt_f (t : RT) : cnt t = cnts t.f2 (wrap64 (2 + (t.f1.length : Int))) := by
  obtain ⟨n, l, k⟩ := t
  simp only [cnt]
theorem cnts_drop (ks : List RT) (i : Nat) (h : i < ks.length) (a : Int) : cnts (ks.drop i) a = cnts (ks.drop (i + 1)) (wrap64 (a + cnt ks[i])) := by
  rw [List.drop_eq_getElem_cons h]; simp only [cnts]
theorem cnts_end (ks : List RT) (a : Int) : cnts (ks.drop ks.length) a = a := by
  rw [List.drop_eq_nil_of_le (Nat.le_refl _)]; simp only [cnts]
theorem cntP_l0 (ks : List RT) (hk : ks.length ≤ 9000000000000000000) (ih : ∀ t ∈ ks, Ev (fun k => tree_Count.f k t.f0 (t.f1.map toL) (t.f2.map toT)) (cnt t)) :
    ∀ (d i : Nat) (a : Int), i + d = ks.length → Ev (fun k => tree_Count.l0 k a (ks.map toT) (ks.length : Int) (i : Int)) (cnts (ks.drop i) a) := by
  intro d
  induction d with
  | zero =>
    intro i a hi
    obtain rfl : i = ks.length := by omega
    rw [cnts_end]
    exact Ev.step (f := fun _ => some a) (fun k => by simp only [tree_Count.l0]; rw [if_neg (by omega)]) (Ev.now _)
  | succ d ihd =>
    intro i a hi
    have hil : i < ks.length := by omega
    rw [cnts_drop ks i hil]
    refine Ev.step (f := fun k => (tree_Count.f k ks[i].f0 (ks[i].f1.map toL) (ks[i].f2.map toT)).bind fun t => tree_Count.l0 k (wrap64 (a + t)) (ks.map toT) (ks.length : Int) ((i + 1 : Nat) : Int)) (fun k => ?_) (Ev.bind (ih _ (List.getElem_mem hil)) (ihd (i + 1) _ (by omega)))
    simp only [tree_Count.l0]
    rw [if_pos (by omega), if_pos (by omega), if_pos (by rw [List.length_map]; omega), rdPT ks i hil, wrapS i _ hil hk]
theorem cntP : ∀ (N : Nat) (t : RT), SizeOf.sizeOf t < N → TB t → Ev (fun k => tree_Count.f k t.f0 (t.f1.map toL) (t.f2.map toT)) (cnt t)
  | 0, t, h, _ => by omega
  | N + 1, t, h, hb => by
    obtain ⟨_, h3, h4⟩ := TB_of hb
    have h0 := cntP_l0 t.f2 (by omega) (fun x hx => cntP N x (by have := kid_lt hx; omega) (h4 x hx)) t.f2.length 0 (wrap64 (2 + (t.f1.length : Int))) (by omega)
    rw [List.drop_zero, ← cnt_f] at h0
    exact Ev.step (fun k => by simp only [tree_Count.f]; rw [List.length_map, List.length_map]; rfl) h0
def bndB (n : ByteArray) : Bool := decide (n.toList = ([66, 69, 71, 73, 78] : List UInt8)) || decide (n.toList = ([69, 78, 68] : List UInt8))
theorem bound_f (n : ByteArray) : tree_bound.f n = some (bndB n) := by
  unfold tree_bound.f bndB
  by_cases h : n.toList = ([66, 69, 71, 73, 78] : List UInt8)
  · rw [if_pos h, decide_eq_true h]; rfl
  · rw [if_neg h, decide_eq_false h, Bool.false_or]
    by_cases h2 : n.toList = ([69, 78, 68] : List UInt8)
    · rw [decide_eq_true h2, beq_iff_eq.2 h2]
    · rw [decide_eq_false h2, beq_eq_false_iff_ne.2 h2]
def okL (x : RL) : Bool := formR x.f0 (x.f1.map toP) x.f2 && !bndB x.f0
mutual
def okT : Nat → RT → Bool
  | d, ⟨n, l, k⟩ => decide (0 < d) && (nameR n && (l.all okL && okTs (d - 1) k))
def okTs : Nat → List RT → Bool
  | _, [] => true
  | d, t :: r => okT d t && okTs d r
end
theorem okT_f (d : Nat) (t : RT) : okT d t = (decide (0 < d) && (nameR t.f0 && (t.f1.all okL && okTs (d - 1) t.f2))) := by
  obtain ⟨n, l, k⟩ := t
  simp only [okT]
theorem okTs_drop (d : Nat) (ks : List RT) (i : Nat) (h : i < ks.length) : okTs d (ks.drop i) = (okT d ks[i] && okTs d (ks.drop (i + 1))) := by
  rw [List.drop_eq_getElem_cons h]; simp only [okTs]
theorem okTs_end (d : Nat) (ks : List RT) : okTs d (ks.drop ks.length) = true := by
  rw [List.drop_eq_nil_of_le (Nat.le_refl _)]; simp only [okTs]
theorem formP_l1 (d0 : Nat) (h0 : 0 < d0) (h4 : d0 ≤ 4) (ks : List RT) (hk : ks.length ≤ 9000000000000000000) (ih : ∀ t ∈ ks, Ev (fun k => tree_formed.f k t.f0 (t.f1.map toL) (t.f2.map toT) ((d0 - 1 : Nat) : Int)) (okT (d0 - 1) t)) :
    ∀ (d i : Nat), i + d = ks.length → Ev (fun k => tree_formed.l1 k (d0 : Int) (ks.map toT) (ks.length : Int) (i : Int)) (okTs (d0 - 1) (ks.drop i)) := by
  intro d
  induction d with
  | zero =>
    intro i hi
    obtain rfl : i = ks.length := by omega
    rw [okTs_end]
    exact Ev.step (f := fun _ => some true) (fun k => by simp only [tree_formed.l1]; rw [if_neg (by omega)]) (Ev.now _)
  | succ d ihd =>
    intro i hi
    have hil : i < ks.length := by omega
    rw [okTs_drop _ ks i hil]
    have hw : wrap64 ((d0 : Int) - 1) = ((d0 - 1 : Nat) : Int) := by unfold wrap64; omega
    refine Ev.step (f := fun k => (tree_formed.f k ks[i].f0 (ks[i].f1.map toL) (ks[i].f2.map toT) ((d0 - 1 : Nat) : Int)).bind fun t => if t = true then tree_formed.l1 k (d0 : Int) (ks.map toT) (ks.length : Int) ((i + 1 : Nat) : Int) else some false) (fun k => ?_) (Ev.bind (ih _ (List.getElem_mem hil)) ?_)
    · simp only [tree_formed.l1]
      rw [if_pos (by omega), if_pos (by omega), if_pos (by rw [List.length_map]; omega), rdPT ks i hil, wrapS i _ hil hk, hw]
    · cases okT (d0 - 1) ks[i] with
      | false => exact Ev.congr (f := fun _ => some false) (fun k => by rw [if_neg (by simp)]) (Ev.now _)
      | true => exact Ev.congr (fun k => by rw [if_pos rfl]) (by rw [Bool.true_and]; exact ihd (i + 1) (by omega))
theorem formP_l0 (x1 : Int) (nm : ByteArray) (l : List RL) (K : List PT) (hl : l.length ≤ 9000000000000000000) (hs : ∀ x ∈ l, LS x) {r : Bool} (next : Ev (fun k => tree_formed.l1 k x1 K (K.length : Int) 0) r) :
    ∀ (d i : Nat), i + d = l.length → Ev (fun k => tree_formed.l0 k x1 (l.map toL) (l.length : Int) (i : Int) nm (l.map toL) K) ((l.drop i).all okL && r) := by
  intro d
  induction d with
  | zero =>
    intro i hi
    rw [List.drop_eq_nil_of_le (by omega), List.all_nil, Bool.true_and]
    exact Ev.step (fun k => by simp only [tree_formed.l0]; rw [if_neg (by omega)]) next
  | succ d ihd =>
    intro i hi
    have hil : i < l.length := by omega
    have hx := hs _ (List.getElem_mem hil)
    rw [List.drop_eq_getElem_cons hil, List.all_cons, Bool.and_assoc]
    refine Ev.step (f := fun k => (line_Formed.f k l[i].f0 (l[i].f1.map toP) l[i].f2).bind fun t => if t = true then ((tree_bound.f l[i].f0).bind fun u => if u = true then some false else tree_formed.l0 k x1 (l.map toL) (l.length : Int) ((i + 1 : Nat) : Int) nm (l.map toL) K) else some false) (fun k => ?_) (Ev.bind (formL l[i].f0 l[i].f2 (l[i].f1.map toP) hx.1 hx.2.1 (fun p hp => by obtain ⟨q, hq, rfl⟩ := List.mem_map.1 hp; exact hx.2.2 q hq)) ?_)
    · simp only [tree_formed.l0]
      rw [if_pos (by omega), if_pos (by omega), if_pos (by rw [List.length_map]; omega), rdPLm l i hil, wrapS i _ hil hl]
    · unfold okL
      cases formR l[i].f0 (l[i].f1.map toP) l[i].f2 with
      | false => exact Ev.congr (f := fun _ => some false) (fun k => by rw [if_neg (by simp)]) (Ev.now _)
      | true =>
        refine Ev.congr (f := fun k => if bndB l[i].f0 = true then some false else tree_formed.l0 k x1 (l.map toL) (l.length : Int) ((i + 1 : Nat) : Int) nm (l.map toL) K) (fun k => by rw [if_pos rfl, bound_f, Option.bind_some]) ?_
        cases bndB l[i].f0 with
        | true => exact Ev.congr (f := fun _ => some false) (fun k => by rw [if_pos rfl]) (Ev.now _)
        | false => exact Ev.congr (fun k => by rw [if_neg (by simp)]) (by rw [Bool.not_false, Bool.true_and, Bool.true_and]; exact ihd (i + 1) (by omega))
theorem formP : ∀ (N : Nat) (t : RT), SizeOf.sizeOf t < N → TB t → TS t → ∀ d : Nat, d ≤ 4 → Ev (fun k => tree_formed.f k t.f0 (t.f1.map toL) (t.f2.map toT) (d : Int)) (okT d t)
  | 0, t, h, _, _ => by omega
  | N + 1, t, h, hb, hs => by
    intro d hd
    obtain ⟨⟨h1, h2⟩, h3, h4⟩ := TB_of hb
    obtain ⟨s1, s2, s3⟩ := TS_of hs
    have hno : ∀ x : Int, Ev (fun k => tree_formed.j0 k x true t.f0 (t.f1.map toL) (t.f2.map toT)) false := fun x => Ev.step (f := fun _ => some false) (fun k => by simp only [tree_formed.j0]; rfl) (Ev.now _)
    rw [okT_f]
    by_cases h0 : 0 < d
    case neg =>
      rw [decide_eq_false h0, Bool.false_and]
      exact Ev.step (fun k => by simp only [tree_formed.f]; rw [if_pos (by omega)]) (hno _)
    rw [decide_eq_true h0, Bool.true_and]
    refine Ev.step (f := fun k => (line_Name.f k t.f0).bind fun t210 => tree_formed.j0 k (d : Int) (!t210) t.f0 (t.f1.map toL) (t.f2.map toT)) (fun k => by simp only [tree_formed.f]; rw [if_neg (by omega)]) (Ev.bind (nameL t.f0 s1) ?_)
    cases nameR t.f0 with
    | false => exact hno _
    | true =>
      rw [Bool.true_and]
      have n1 := formP_l1 d h0 hd t.f2 (by omega) (fun x hx => formP N x (by have := kid_lt hx; omega) (h4 x hx) (s3 x hx) (d - 1) (by omega)) t.f2.length 0 (by omega)
      rw [List.drop_zero] at n1
      have n0 := formP_l0 (d : Int) t.f0 t.f1 (t.f2.map toT) (by omega) s2 (r := okTs (d - 1) t.f2) (by rw [List.length_map]; exact n1) t.f1.length 0 (by omega)
      rw [List.drop_zero] at n0
      exact Ev.step (fun k => by simp only [tree_formed.j0]; rw [if_neg (by simp), List.length_map]; rfl) n0
def formT (t : RT) : Bool := okT 4 t && decide (cnt t ≤ 300)
theorem formTP (t : RT) (hb : TB t) (hs : TS t) : Ev (fun k => tree_Formed.f k t.f0 (t.f1.map toL) (t.f2.map toT)) (formT t) := by
  have h1 := formP _ t (Nat.lt_succ_self _) hb hs 4 (by omega)
  have h2 := cntP _ t (Nat.lt_succ_self _) hb
  unfold formT
  refine Ev.bind h1 ?_
  cases okT 4 t with
  | false => exact Ev.congr (f := fun _ => some false) (fun k => by rw [if_neg (by simp)]) (Ev.now _)
  | true => exact Ev.congr (fun k => by rw [if_pos rfl]) (Ev.bind h2 (Ev.now _))
end Go.Proofs.YtdojmdbaiddkgaaGreatDoor.Pure
end
section
set_option linter.unusedVariables false
set_option linter.unusedSimpArgs false
namespace Go.Proofs.YtdojmdbaiddkgaaGreatDoor.Args
open Go Go.RowKit Go.Lib Go.Proofs.YtdojmdbaiddkgaaGreatDoorW.PrintWords Go.Proofs.YtdojmdbaiddkgaaGreatDoor.Print
theorem LS_of {x : S53} (h : LineB (x.f0, x.f1, x.f2)) : Pure.LS x := ⟨h.1, h.2.2, fun p hp => ⟨(h.2.1.2 p hp).1, (h.2.1.2 p hp).2.2⟩⟩
theorem TSs_mk : ∀ l : List RTree, (∀ t ∈ l, Pure.TS t) → Pure.TSs l
  | [], _ => by simp [Pure.TSs]
  | t :: r, h => by
    simp only [Pure.TSs]
    exact ⟨h t (by simp), TSs_mk r (fun x hx => h x (by simp [hx]))⟩
theorem rdTreeS : ∀ N, RdN N k25 25 (fun t => Pure.TB t ∧ Pure.TS t)
  | 0 => by
    intro H enc W fuel cs x hN hx hw
    obtain ⟨xs, n, rfl, rfl, hl, hlen, hf⟩ := DataW.trod_struct Tryz.underlying25 hx
    omega
  | N + 1 => by
    intro H enc W fuel cs x hN hx hw
    have h := RdN.struct (N := N) (d := Kd.pair Kd.string (Kd.pair (Kd.slice 53 k53) (Kd.slice 25 k25))) Tryz.underlying25 (by kernel_rfl)
      (RdFN.cons (RdN.of (Rd.string Tryz.underlying9)) (RdFN.cons (RdN.of (Rd.slice (t := 22) Tryz.underlying22 (by kernel_rfl) (by decide) 56 (by kernel_rfl) rdLineS)) (RdFN.one (RdN.slice (t := 23) Tryz.underlying23 (by kernel_rfl) (by decide) 64 (by kernel_rfl) (rdTreeS N)))))
    obtain ⟨⟨a, l, ks⟩, ha, hB⟩ := h H enc W fuel cs x hN hx hw
    obtain ⟨_, _, rfl, rfl, ⟨_, _, rfl, ⟨A1, c1, rfl, l1, g1⟩, ⟨A2, c2, rfl, l2, g2⟩⟩⟩ := ha
    refine ⟨⟨a, l, ks⟩, k25_mk W ⟨a, l, ks⟩ l1 g1 l2 g2, ?_⟩
    simp only [Pure.TB, Pure.TS]
    have b1 := hB.2.1.1
    have b2 := hB.2.2.1
    simp only at b1 b2
    exact ⟨⟨⟨by omega, fun x hx => LB_of (hB.2.1.2 x hx)⟩, by omega, TBs_mk _ (fun t ht => (hB.2.2.2 t ht).1)⟩, hB.1, fun x hx => LS_of (hB.2.1.2 x hx), TSs_mk _ (fun t ht => (hB.2.2.2 t ht).2)⟩
set_option maxRecDepth 100000 in
theorem openTreeS {v : Value} {H : Type} {enc : TypeId × Value → H} {W : World} {r : Reach} {b0 : Nat} {d : DataW H} {p : List MemPlace} (hv : Value.okWide Tryz.prog W r b0 25 v) (hd : DataW.Trod enc Tryz.prog W 0 (fun _ => true) true 25 v d p) (hw : ∀ n ∈ d.weights Tryz.prog 25, n ≤ reachBytes) : ∃ z, IsTree W v z ∧ Pure.TS z := by
  obtain ⟨z, cs, rfl, hK, hB⟩ := agg_of Tryz.underlying25 (fun H enc W fuel cs x hx hw => rdTreeS fuel H enc W fuel cs x (Nat.le_refl _) hx hw) hv hd hw
  obtain ⟨A1, c1, A2, c2, rfl, l1, g1, l2, g2⟩ := k25_open hK
  exact ⟨z, ⟨hB.1, A1, c1, A2, c2, rfl, l1, g1, l2, g2⟩, hB.2⟩
end Go.Proofs.YtdojmdbaiddkgaaGreatDoor.Args
end
section
set_option linter.unusedVariables false
set_option linter.unusedSimpArgs false
set_option linter.unusedSectionVars false
namespace Go.Proofs.YtdojmdbaiddkgaaGreatDoor.Pure
open Go.RowKit Go.Proofs.YtdojmdbaiddkgaaGreatDoor.Print Go.Proofs.YtdojmdbaiddkgaaGreatDoorW.PrintWords Go.Proofs.YtdojmdbaiddkgaaGreatDoorW.PrintLast Go.Proofs.YtdojmdbaiddkgaaGreatDoorW.PrintMore
theorem few_line2 (nm v : ByteArray) (l : List RP) (hn : nm.size ≤ 140737488351232) (hv : v.size ≤ 140737488351232) (hs : ∀ p ∈ l, ParB' (toP p)) (hf : formR nm (l.map toP) v = true) :
    ∃ b, Ev (fun k => trystlaw10_Few.f k nm l v) b ∧ (b = true → nm.size + v.size + fewP l ≤ 5000) := by
  have h2 := formR_of hf
  have hp60 : ∀ p ∈ l, p.f1.length ≤ 60 := fun p hp => (parR_of (okPs_all _ [] h2.2.2.2 (toP p) (List.mem_map_of_mem hp))).2.2.1
  have hl60 : l.length ≤ 60 := by rw [← List.length_map (f := toP)]; exact h2.2.1
  have hfp := fewP_le l (fun p hp => ⟨hs p hp, hp60 p hp⟩)
  have hfp2 : l.length * 9000000000000000 ≤ 60 * 9000000000000000 := Nat.mul_le_mul_right _ hl60
  have := few_sum nm v l hl60 hp60 l.length 0 (nm.size + v.size) (by omega) (by rw [List.drop_zero]; omega)
  rw [List.drop_zero] at this
  exact ⟨_, Ev.congr (fun k => by unfold trystlaw10_Few.f; rw [wrapN _ _ (by omega)]; rfl) this, fun hb => by have hb := of_decide_eq_true hb; omega⟩
def goodL (x : RL) : Prop := (lineT x.f0 (x.f1.map toP) x.f2).length ≤ 1000000000
theorem goodL_of {x : RL} (h : x.f0.size + x.f2.size + fewP x.f1 ≤ 5000) : goodL x := by
  unfold goodL
  have := lineT_le x.f0 x.f2 x.f1
  omega
mutual
def goodT : RT → Prop
  | ⟨_, l, k⟩ => (∀ x ∈ l, goodL x) ∧ goodTs k
def goodTs : List RT → Prop
  | [] => True
  | t :: r => goodT t ∧ goodTs r
end
theorem goodTs_all : ∀ l : List RT, goodTs l → ∀ t ∈ l, goodT t
  | [], _, t, ht => by simp at ht
  | x :: r, h, t, ht => by
    simp only [goodTs] at h
    rcases List.mem_cons.1 ht with rfl | ht
    · exact h.1
    · exact goodTs_all r h.2 t ht
theorem goodT_of {t : RT} (h : goodT t) : (∀ x ∈ t.f1, goodL x) ∧ ∀ x ∈ t.f2, goodT x := by
  obtain ⟨n, l, k⟩ := t
  simp only [goodT] at h
  exact ⟨h.1, goodTs_all k h.2⟩
theorem goodT_mk {t : RT} (h1 : ∀ x ∈ t.f1, goodL x) (h2 : goodTs t.f2) : goodT t := by
  obtain ⟨n, l, k⟩ := t
  simp only [goodT]
  exact ⟨h1, h2⟩
mutual
def nL : RT → Nat
  | ⟨_, l, k⟩ => 2 + l.length + nLs k
def nLs : List RT → Nat
  | [] => 0
  | t :: r => nL t + nLs r
end
theorem nL_f (t : RT) : nL t = 2 + t.f1.length + nLs t.f2 := by
  obtain ⟨n, l, k⟩ := t
  simp only [nL]
theorem okTs_all (d : Nat) : ∀ l : List RT, okTs d l = true → ∀ t ∈ l, okT d t = true
  | [], _, t, ht => by simp at ht
  | x :: r, h, t, ht => by
    simp only [okTs, Bool.and_eq_true] at h
    rcases List.mem_cons.1 ht with rfl | ht
    · exact h.1
    · exact okTs_all d r h.2 t ht
theorem okT_of {d : Nat} {t : RT} (h : okT d t = true) : 0 < d ∧ nameR t.f0 = true ∧ (∀ x ∈ t.f1, okL x = true) ∧ ∀ x ∈ t.f2, okT (d - 1) x = true := by
  rw [okT_f] at h
  simp only [Bool.and_eq_true, decide_eq_true_eq] at h
  exact ⟨h.1, h.2.1, fun x hx => List.all_eq_true.1 h.2.2.1 x hx, okTs_all _ _ h.2.2.2⟩
theorem name_size {n : ByteArray} (h : nameR n = true) : 1 ≤ n.size ∧ n.size ≤ 60 := by
  unfold nameR at h
  simp only [Bool.and_eq_true, decide_eq_true_eq] at h
  exact h.2
theorem okL_of {x : RL} (h : okL x = true) : formR x.f0 (x.f1.map toP) x.f2 = true := by
  unfold okL at h
  simp only [Bool.and_eq_true] at h
  exact h.1
theorem sizeX_l1 (nm : ByteArray) (l : List RL) (dp B : Nat) (hdp : dp ≤ 10) (hB0 : 1048576 ≤ B) (hB : B ≤ 100000000000000000) (ks : List RT) (hk : ks.length ≤ 9000000000000000000)
    (ih : ∀ t ∈ ks, ∃ r : Nat, Ev (fun k => trystlaw11_size.f k t.f0 t.f1 t.f2 ((dp + 1 : Nat) : Int)) (r : Int) ∧ r + 50000 ≤ B ∧ (r ≤ 50000 → goodT t ∧ nL t ≤ r)) :
    ∀ (d i n : Nat), i + d = ks.length → n ≤ B → ∃ r : Nat, Ev (fun k => trystlaw11_size.l1 k (dp : Int) (n : Int) (ks.length : Int) (i : Int) nm l ks) (r : Int) ∧ r ≤ B ∧ (r ≤ 50000 → goodTs (ks.drop i) ∧ n + nLs (ks.drop i) ≤ r) := by
  intro d
  induction d with
  | zero =>
    intro i n hi hn
    obtain rfl : i = ks.length := by omega
    refine ⟨n, Ev.step (f := fun _ => some (n : Int)) (fun k => by simp only [trystlaw11_size.l1]; rw [if_neg (by omega)]) (Ev.now _), hn, fun _ => ?_⟩
    rw [List.drop_eq_nil_of_le (Nat.le_refl _)]
    simp only [goodTs, nLs]
    exact ⟨trivial, Nat.le_refl _⟩
  | succ d ihd =>
    intro i n hi hn
    have hil : i < ks.length := by omega
    by_cases hg : (n : Int) > 50000
    · exact ⟨1048576, Ev.step (f := fun _ => some 1048576) (fun k => by simp only [trystlaw11_size.l1]; rw [if_pos (by omega), if_neg (by omega), if_pos hg]) (Ev.now _), hB0, fun h => by omega⟩
    obtain ⟨q, hq, hqB, hqg⟩ := ih _ (List.getElem_mem hil)
    obtain ⟨r, hr, hrB, hrg⟩ := ihd (i + 1) (n + q) (by omega) (by omega)
    refine ⟨r, Ev.step (f := fun k => (trystlaw11_size.f k ks[i].f0 ks[i].f1 ks[i].f2 ((dp + 1 : Nat) : Int)).bind fun t => trystlaw11_size.l1 k (dp : Int) (wrap64 ((n : Int) + t)) (ks.length : Int) ((i + 1 : Nat) : Int) nm l ks) (fun k => ?_) (Ev.bind hq ?_), hrB, fun h => ?_⟩
    · simp only [trystlaw11_size.l1]
      rw [if_pos (by omega), if_neg (by omega), if_neg hg, if_pos (by omega), if_pos (by omega), rdRT ks i hil, wrapS i _ hil hk, show wrap64 ((dp : Int) + 1) = ((dp + 1 : Nat) : Int) by unfold wrap64; omega]
    · rw [show wrap64 ((n : Int) + (q : Int)) = ((n + q : Nat) : Int) by unfold wrap64; omega]
      exact hr
    · obtain ⟨g1, g2⟩ := hrg h
      obtain ⟨g3, g4⟩ := hqg (by omega)
      rw [List.drop_eq_getElem_cons hil]
      simp only [goodTs, nLs]
      exact ⟨⟨g3, g1⟩, by omega⟩
theorem sizeX_l0 (nm : ByteArray) (l : List RL) (ks : List RT) (dp : Int) (B : Nat) (hl : l.length < 2513169434916) (hs : ∀ x ∈ l, LS x) (hok : ∀ x ∈ l, okL x = true) (G : Nat → Nat → Prop) (hG : ∀ a b r, a ≤ b → G b r → G a r) (hB0 : 1048576 ≤ B)
    (next : ∀ n : Nat, n ≤ 61 + l.length * 5001 → ∃ r : Nat, Ev (fun k => trystlaw11_size.l1 k dp (n : Int) (ks.length : Int) 0 nm l ks) (r : Int) ∧ r ≤ B ∧ (r ≤ 50000 → G n r)) :
    ∀ (d i n : Nat), i + d = l.length → n ≤ 61 + i * 5001 → ∃ r : Nat, Ev (fun k => trystlaw11_size.l0 k dp (n : Int) (l.length : Int) (i : Int) nm l ks) (r : Int) ∧ r ≤ B ∧ (r ≤ 50000 → (∀ x ∈ l.drop i, goodL x) ∧ G (n + d) r) := by
  intro d
  induction d with
  | zero =>
    intro i n hi hn
    obtain rfl : i = l.length := by omega
    obtain ⟨r, h1, h2, h3⟩ := next n hn
    refine ⟨r, Ev.step (fun k => by simp only [trystlaw11_size.l0]; rw [if_neg (by omega)]) h1, h2, fun h => ⟨fun x hx => ?_, h3 h⟩⟩
    rw [List.drop_eq_nil_of_le (Nat.le_refl _)] at hx
    simp at hx
  | succ d ihd =>
    intro i n hi hn
    have hil : i < l.length := by omega
    have hx := hs _ (List.getElem_mem hil)
    obtain ⟨b, hb, hb2⟩ := few_line2 l[i].f0 l[i].f2 l[i].f1 hx.1 hx.2.1 hx.2.2 (okL_of (hok _ (List.getElem_mem hil)))
    have hstep : ∀ k, trystlaw11_size.l0 (k + 1) dp (n : Int) (l.length : Int) (i : Int) nm l ks = (trystlaw10_Few.f k l[i].f0 l[i].f1 l[i].f2).bind fun t => if t = true then trystlaw11_size.l0 k dp (wrap64 ((wrap64 ((wrap64 ((n : Int) + 1)) + (l[i].f0.size : Int))) + (l[i].f2.size : Int))) (l.length : Int) ((i + 1 : Nat) : Int) nm l ks else some 1048576 := fun k => by
      simp only [trystlaw11_size.l0]
      rw [if_pos (by omega), if_pos (by omega), if_pos (by omega), rdRL l i hil, wrapS i _ hil (by omega)]
    cases b with
    | false => exact ⟨1048576, Ev.step hstep (Ev.bind hb (Ev.congr (f := fun _ => some 1048576) (fun k => by rw [if_neg (by simp)]) (Ev.now _))), hB0, fun h => by omega⟩
    | true =>
      have h5 := hb2 rfl
      obtain ⟨r, h1, h2, h3⟩ := ihd (i + 1) (n + 1 + l[i].f0.size + l[i].f2.size) (by omega) (by omega)
      refine ⟨r, Ev.step hstep (Ev.bind hb (Ev.congr (fun k => by rw [if_pos rfl]) ?_)), h2, fun h => ?_⟩
      · have hn2 : n ≤ 12568360344014977 := by clear hG hstep hb hb2 next ihd h1 h2 h3; omega
        have h6 : l[i].f0.size + l[i].f2.size + fewP l[i].f1 ≤ 5000 := h5
        have e1 : wrap64 ((n : Int) + 1) = ((n + 1 : Nat) : Int) := wrapN n 1 (by omega)
        rw [e1, wrapN (n + 1) l[i].f0.size (by omega), wrapN (n + 1 + l[i].f0.size) l[i].f2.size (by omega)]
        exact h1
      · obtain ⟨g1, g2⟩ := h3 h
        refine ⟨fun x hx => ?_, hG _ _ _ (by omega) g2⟩
        rw [List.drop_eq_getElem_cons hil] at hx
        rcases List.mem_cons.1 hx with rfl | hx
        · exact goodL_of h5
        · exact g1 x hx
theorem sizeX : ∀ (N : Nat) (t : RT), SizeOf.sizeOf t < N → TB t → TS t → ∀ d dp : Nat, d ≤ 4 → dp + d ≤ 5 → okT d t = true →
    ∃ r : Nat, Ev (fun k => trystlaw11_size.f k t.f0 t.f1 t.f2 (dp : Int)) (r : Int) ∧ r ≤ 20000000000000000 + d * 100000 ∧ (r ≤ 50000 → goodT t ∧ nL t ≤ r)
  | 0, t, h, _, _ => by omega
  | N + 1, t, h, hb, hs => by
    intro d dp hd hdp hok
    obtain ⟨⟨h1, h2⟩, h3, h4⟩ := TB_of hb
    obtain ⟨s1, s2, s3⟩ := TS_of hs
    obtain ⟨o1, o2, o3, o4⟩ := okT_of hok
    have hnm := name_size o2
    have ih : ∀ x ∈ t.f2, ∃ r : Nat, Ev (fun k => trystlaw11_size.f k x.f0 x.f1 x.f2 ((dp + 1 : Nat) : Int)) (r : Int) ∧ r + 50000 ≤ 20000000000000000 + d * 100000 ∧ (r ≤ 50000 → goodT x ∧ nL x ≤ r) := fun x hx => by
      obtain ⟨r, g1, g2, g3⟩ := sizeX N x (by have := kid_lt hx; omega) (h4 x hx) (s3 x hx) (d - 1) (dp + 1) (by omega) (by omega) (o4 x hx)
      exact ⟨r, g1, by omega, g3⟩
    have hl5 : t.f1.length * 5001 ≤ 12568360344014916 := by omega
    obtain ⟨r, g1, g2, g3⟩ := sizeX_l0 t.f0 t.f1 t.f2 (dp : Int) (20000000000000000 + d * 100000) h1 s2 o3 (fun n r => goodTs t.f2 ∧ n + nLs t.f2 ≤ r) (fun a b r hab hg => ⟨hg.1, by omega⟩) (by omega)
      (fun n hn => by
        obtain ⟨r, q1, q2, q3⟩ := sizeX_l1 t.f0 t.f1 dp (20000000000000000 + d * 100000) (by omega) (by omega) (by omega) t.f2 (by omega) ih t.f2.length 0 n (by omega) (by omega)
        rw [List.drop_zero] at q3
        exact ⟨r, q1, q2, q3⟩) t.f1.length 0 (1 + t.f0.size) (by omega) (by omega)
    rw [List.drop_zero] at g3
    refine ⟨r, Ev.step (fun k => by simp only [trystlaw11_size.f]; rw [show wrap64 (1 + (t.f0.size : Int)) = ((1 + t.f0.size : Nat) : Int) by unfold wrap64; omega]; rfl) g1, g2, fun hr => ?_⟩
    obtain ⟨q1, q2, q3⟩ := g3 hr
    exact ⟨goodT_mk q1 q2, by rw [nL_f]; omega⟩
theorem fewX (t : RT) (hb : TB t) (hs : TS t) (hok : okT 4 t = true) : ∃ b, Ev (fun k => trystlaw11_Few.f k t.f0 t.f1 t.f2) b ∧ (b = true → goodT t ∧ nL t ≤ 50000) := by
  obtain ⟨r, g1, g2, g3⟩ := sizeX _ t (Nat.lt_succ_self _) hb hs 4 0 (by omega) (by omega) hok
  refine ⟨decide ((r : Int) ≤ 50000), Ev.bind g1 (Ev.now _), fun h => ?_⟩
  have h := of_decide_eq_true h
  obtain ⟨q1, q2⟩ := g3 (by omega)
  exact ⟨q1, by omega⟩
/-- Few of any tree answers. -/
theorem size_l0' (nm : ByteArray) (l : List RL) (ks : List RT) (dp : Int) (hl : l.length ≤ 9000000000000000000) (hb : ∀ x ∈ l, LB x) (next : ∀ n : Int, ∃ r, Ev (fun k => trystlaw11_size.l1 k dp n (ks.length : Int) ((0 : Nat) : Int) nm l ks) r) :
    ∀ (d i : Nat) (n : Int), i + d = l.length → ∃ r, Ev (fun k => trystlaw11_size.l0 k dp n (l.length : Int) (i : Int) nm l ks) r := by
  intro d
  induction d with
  | zero =>
    intro i n hi
    obtain ⟨r, hr⟩ := next n
    exact ⟨r, Ev.step (fun k => by simp only [trystlaw11_size.l0]; rw [if_neg (by omega)]; rfl) hr⟩
  | succ d ihd =>
    intro i n hi
    have hil : i < l.length := by omega
    have hx := hb _ (List.getElem_mem hil)
    obtain ⟨b, hbv⟩ := few_ev l[i].f0 l[i].f2 l[i].f1 (by have := hx.1; omega) (fun p hp => by have := hx.2 p hp; omega) l[i].f1.length 0 (wrap64 ((l[i].f0.size : Int) + (l[i].f2.size : Int))) (by omega)
    have hstep : ∀ k, trystlaw11_size.l0 (k + 1) dp n (l.length : Int) (i : Int) nm l ks = (trystlaw10_Few.f k l[i].f0 l[i].f1 l[i].f2).bind fun t => if t = true then trystlaw11_size.l0 k dp (wrap64 ((wrap64 ((wrap64 (n + 1)) + (l[i].f0.size : Int))) + (l[i].f2.size : Int))) (l.length : Int) ((i + 1 : Nat) : Int) nm l ks else some 1048576 := fun k => by
      simp only [trystlaw11_size.l0]
      rw [if_pos (by omega), if_pos (by omega), if_pos (by omega), rdRL l i hil, wrapS i _ hil hl]
    have hbv2 : Ev (fun k => trystlaw10_Few.f k l[i].f0 l[i].f1 l[i].f2) b := hbv
    cases b with
    | false => exact ⟨1048576, Ev.step hstep (Ev.bind hbv2 (Ev.congr (f := fun _ => some 1048576) (fun k => by rw [if_neg (by simp)]) (Ev.now _)))⟩
    | true =>
      obtain ⟨r, hr⟩ := ihd (i + 1) (wrap64 ((wrap64 ((wrap64 (n + 1)) + (l[i].f0.size : Int))) + (l[i].f2.size : Int))) (by omega)
      exact ⟨r, Ev.step hstep (Ev.bind hbv2 (Ev.congr (fun k => by rw [if_pos rfl]) hr))⟩
theorem sizeT' : ∀ (N : Nat) (t : RT), SizeOf.sizeOf t < N → TB t → ∀ dp : Int, ∃ r, Ev (fun k => trystlaw11_size.f k t.f0 t.f1 t.f2 dp) r
  | 0, t, h, _ => by omega
  | N + 1, t, h, hb => by
    intro dp
    obtain ⟨⟨h1, h2⟩, h3, h4⟩ := TB_of hb
    obtain ⟨r, hr⟩ := size_l0' t.f0 t.f1 t.f2 dp (by omega) h2 (fun n => size_l1 t.f0 t.f1 t.f2 dp (by omega) (fun x hx dq => sizeT' N x (by have := kid_lt hx; omega) (h4 x hx) dq) t.f2.length 0 n (by omega)) t.f1.length 0 (wrap64 (1 + (t.f0.size : Int))) (by omega)
    exact ⟨r, Ev.step (fun k => by simp only [trystlaw11_size.f]; rfl) hr⟩
theorem fewT' (t : RT) (hb : TB t) : ∃ b, Ev (fun k => trystlaw11_Few.f k t.f0 t.f1 t.f2) b := by
  obtain ⟨r, hr⟩ := sizeT' _ t (Nat.lt_succ_self _) hb 0
  exact ⟨decide (r ≤ 50000), Ev.bind hr (Ev.now _)⟩
def lnL : List RL → List ByteArray → List ByteArray × Int
  | [], a => (a, 0)
  | x :: r, a => if (printR x.f0 (x.f1.map toP) x.f2).2 = 0 then lnL r (a ++ [(printR x.f0 (x.f1.map toP) x.f2).1]) else ([], (printR x.f0 (x.f1.map toP) x.f2).2)
def finL (n : ByteArray) (p : List ByteArray × Int) : List ByteArray × Int := if p.2 = 0 then (p.1 ++ [(⟨#[69, 78, 68, 58]⟩ : ByteArray) ++ n], 0) else ([], p.2)
mutual
def lnT : RT → List ByteArray × Int
  | ⟨n, l, k⟩ => if (lnL l [(⟨#[66, 69, 71, 73, 78, 58]⟩ : ByteArray) ++ n]).2 = 0 then finL n (lnK k (lnL l [(⟨#[66, 69, 71, 73, 78, 58]⟩ : ByteArray) ++ n]).1) else ([], (lnL l [(⟨#[66, 69, 71, 73, 78, 58]⟩ : ByteArray) ++ n]).2)
def lnK : List RT → List ByteArray → List ByteArray × Int
  | [], a => (a, 0)
  | t :: r, a => if (lnT t).2 = 0 then lnK r (a ++ (lnT t).1) else ([], (lnT t).2)
end
def lnTl (n : ByteArray) (k : List RT) (p : List ByteArray × Int) : List ByteArray × Int := if p.2 = 0 then finL n (lnK k p.1) else ([], p.2)
theorem lnT_f (t : RT) : lnT t = lnTl t.f0 t.f2 (lnL t.f1 [(⟨#[66, 69, 71, 73, 78, 58]⟩ : ByteArray) ++ t.f0]) := by
  obtain ⟨n, l, k⟩ := t
  simp only [lnT]
  rfl
theorem lnL_len : ∀ (l : List RL) (a : List ByteArray), (lnL l a).1.length ≤ a.length + l.length
  | [], a => by simp [lnL]
  | x :: r, a => by
    unfold lnL
    split
    · have := lnL_len r (a ++ [(printR x.f0 (x.f1.map toP) x.f2).1])
      rw [List.length_append, List.length_singleton] at this
      rw [List.length_cons]; omega
    · simp
theorem lnK_len : ∀ (ks : List RT) (a : List ByteArray), (∀ t ∈ ks, (lnT t).1.length ≤ nL t) → (lnK ks a).1.length ≤ a.length + nLs ks
  | [], a, _ => by simp [lnK, nLs]
  | t :: r, a, h => by
    simp only [lnK, nLs]
    split
    · have := lnK_len r (a ++ (lnT t).1) (fun x hx => h x (by simp [hx]))
      rw [List.length_append] at this
      have := h t (by simp)
      omega
    · simp
theorem lnT_len : ∀ (N : Nat) (t : RT), SizeOf.sizeOf t < N → (lnT t).1.length ≤ nL t
  | 0, t, h => by omega
  | N + 1, t, h => by
    rw [lnT_f, nL_f]
    unfold lnTl
    split
    · unfold finL
      split
      · have h1 := lnL_len t.f1 [(⟨#[66, 69, 71, 73, 78, 58]⟩ : ByteArray) ++ t.f0]
        have h2 := lnK_len t.f2 (lnL t.f1 [(⟨#[66, 69, 71, 73, 78, 58]⟩ : ByteArray) ++ t.f0]).1 (fun x hx => lnT_len N x (by have := kid_lt hx; omega))
        rw [List.length_singleton] at h1
        rw [List.length_append, List.length_singleton]
        omega
      · simp
    · simp
theorem print_size (nm : ByteArray) (l : List LP) (v : ByteArray) (h : (printR nm l v).2 = 0) : (printR nm l v).1.size ≤ 2000 := by
  unfold printR at h ⊢
  split at h
  · rename_i h1
    rw [if_pos h1]
    unfold lineR at h ⊢
    split at h
    · cases h
    · rename_i h2
      rw [if_neg h2]
      show (lineT nm l v).toArray.size ≤ 2000
      rw [List.size_toArray]; omega
  · cases h
theorem lnL_size : ∀ (l : List RL) (a : List ByteArray), (∀ x ∈ a, x.size ≤ 2000) → ∀ x ∈ (lnL l a).1, x.size ≤ 2000
  | [], a, h => by simpa [lnL] using h
  | y :: r, a, h => by
    unfold lnL
    split
    · rename_i h0
      refine lnL_size r _ (fun x hx => ?_)
      rcases List.mem_append.1 hx with hx | hx
      · exact h x hx
      · rw [List.mem_singleton.1 hx]; exact print_size _ _ _ h0
    · intro x hx; simp at hx
theorem lnK_size : ∀ (ks : List RT) (a : List ByteArray), (∀ x ∈ a, x.size ≤ 2000) → (∀ t ∈ ks, ∀ x ∈ (lnT t).1, x.size ≤ 2000) → ∀ x ∈ (lnK ks a).1, x.size ≤ 2000
  | [], a, h, _ => by simpa [lnK] using h
  | t :: r, a, h, ht => by
    simp only [lnK]
    split
    · refine lnK_size r _ (fun x hx => ?_) (fun y hy => ht y (by simp [hy]))
      rcases List.mem_append.1 hx with hx | hx
      · exact h x hx
      · exact ht t (by simp) x hx
    · intro x hx; simp at hx
theorem lnT_size : ∀ (N : Nat) (t : RT), SizeOf.sizeOf t < N → ∀ d, okT d t = true → ∀ x ∈ (lnT t).1, x.size ≤ 2000
  | 0, t, h => by omega
  | N + 1, t, h => by
    intro d hok
    obtain ⟨o1, o2, o3, o4⟩ := okT_of hok
    have hnm := name_size o2
    rw [lnT_f]
    unfold lnTl
    have hb : ∀ x ∈ [(⟨#[66, 69, 71, 73, 78, 58]⟩ : ByteArray) ++ t.f0], x.size ≤ 2000 := fun x hx => by
      rw [List.mem_singleton.1 hx, ByteArray.size_append]; show 6 + _ ≤ _; omega
    split
    · unfold finL
      split
      · intro x hx
        rcases List.mem_append.1 hx with hx | hx
        · exact lnK_size t.f2 _ (lnL_size t.f1 _ hb) (fun y hy => lnT_size N y (by have := kid_lt hy; omega) (d - 1) (o4 y hy)) x hx
        · rw [List.mem_singleton.1 hx, ByteArray.size_append]; show 4 + _ ≤ _; omega
      · intro x hx; simp at hx
    · intro x hx; simp at hx
theorem goodL_len {x : RL} (h : goodL x) : (lineT x.f0 (x.f1.map toP) x.f2).length ≤ 1000000000 ∧ True := ⟨h, trivial⟩
theorem lnL_drop (l : List RL) (i : Nat) (h : i < l.length) (a : List ByteArray) : lnL (l.drop i) a = if (printR l[i].f0 (l[i].f1.map toP) l[i].f2).2 = 0 then lnL (l.drop (i + 1)) (a ++ [(printR l[i].f0 (l[i].f1.map toP) l[i].f2).1]) else ([], (printR l[i].f0 (l[i].f1.map toP) l[i].f2).2) := by
  rw [List.drop_eq_getElem_cons h]; rfl
theorem lnK_drop (l : List RT) (i : Nat) (h : i < l.length) (a : List ByteArray) : lnK (l.drop i) a = if (lnT l[i]).2 = 0 then lnK (l.drop (i + 1)) (a ++ (lnT l[i]).1) else ([], (lnT l[i]).2) := by
  rw [List.drop_eq_getElem_cons h]; simp only [lnK]
theorem nLs_drop (l : List RT) (i : Nat) (h : i < l.length) : nLs (l.drop i) = nL l[i] + nLs (l.drop (i + 1)) := by
  rw [List.drop_eq_getElem_cons h]; simp only [nLs]
theorem linesP_l1 (nm : ByteArray) (L : List PL) (ks : List RT) (hn : nm.size ≤ 140737488351232) (hk : ks.length ≤ 9000000000000000000) (ih : ∀ t ∈ ks, Ev (fun k => tree_lines.f k t.f0 (t.f1.map toL) (t.f2.map toT)) (lnT t)) :
    ∀ (d i : Nat) (a : List ByteArray), i + d = ks.length → a.length + nLs (ks.drop i) ≤ 1000000 → Ev (fun k => tree_lines.l1 k a (ks.map toT) (ks.length : Int) (i : Int) nm L (ks.map toT)) (finL nm (lnK (ks.drop i) a)) := by
  intro d
  induction d with
  | zero =>
    intro i a hi ha
    obtain rfl : i = ks.length := by omega
    rw [List.drop_eq_nil_of_le (Nat.le_refl _)] at ha ⊢
    have ha : a.length ≤ 1000000 := by omega
    have ha2 : a.length < 8796093022208 := by omega
    refine Ev.step (f := fun _ => some (a ++ [(⟨#[69, 78, 68, 58]⟩ : ByteArray) ++ nm], 0)) (fun k => ?_) (by simp only [lnK, finL]; exact Ev.now _)
    simp only [tree_lines.l1]
    rw [if_neg (by omega), if_pos (by omega), if_pos ha2]
  | succ d ihd =>
    intro i a hi ha
    have hil : i < ks.length := by omega
    have hlen := lnT_len _ ks[i] (Nat.lt_succ_self _)
    rw [nLs_drop ks i hil] at ha
    rw [lnK_drop ks i hil]
    refine Ev.step (f := fun k => (tree_lines.f k ks[i].f0 (ks[i].f1.map toL) (ks[i].f2.map toT)).bind fun bt => if bt.2 = 0 then (if a.length + bt.1.length < 8796093022208 then tree_lines.l1 k (a ++ bt.1) (ks.map toT) (ks.length : Int) ((i + 1 : Nat) : Int) nm L (ks.map toT) else none) else some ([], bt.2)) (fun k => ?_) (Ev.bind (ih _ (List.getElem_mem hil)) ?_)
    · simp only [tree_lines.l1]
      rw [if_pos (by omega), if_pos (by omega), if_pos (by rw [List.length_map]; omega), rdPT ks i hil, wrapS i _ hil hk]
    · by_cases h0 : (lnT ks[i]).2 = 0
      · refine Ev.congr (fun k => by rw [if_pos h0, if_pos (by omega)]) ?_
        rw [if_pos h0]
        exact ihd (i + 1) _ (by omega) (by rw [List.length_append]; omega)
      · refine Ev.congr (f := fun _ => some ([], (lnT ks[i]).2)) (fun k => by rw [if_neg h0]) ?_
        rw [if_neg h0]
        unfold finL
        rw [if_neg (show ¬ (([] : List ByteArray), (lnT ks[i]).2).2 = 0 from h0)]
        exact Ev.now _
theorem linesP_l0 (nm : ByteArray) (l : List RL) (ks : List RT) (hl : l.length < 2513169434916) (hs : ∀ x ∈ l, LS x) (hg : ∀ x ∈ l, goodL x) (m : Nat) (hm : m ≤ 900000)
    (next : ∀ a : List ByteArray, a.length ≤ m → Ev (fun k => tree_lines.l1 k a (ks.map toT) ((ks.map toT).length : Int) 0 nm (l.map toL) (ks.map toT)) (finL nm (lnK ks a))) :
    ∀ (d i : Nat) (a : List ByteArray), i + d = l.length → a.length + d ≤ m → Ev (fun k => tree_lines.l0 k a (l.map toL) (l.length : Int) (i : Int) nm (l.map toL) (ks.map toT)) (lnTl nm ks (lnL (l.drop i) a)) := by
  intro d
  induction d with
  | zero =>
    intro i a hi ha
    obtain rfl : i = l.length := by omega
    rw [List.drop_eq_nil_of_le (Nat.le_refl _)]
    refine Ev.step (fun k => by simp only [tree_lines.l0]; rw [if_neg (by omega)]) ?_
    unfold lnTl
    simp only [lnL]
    exact next a (by omega)
  | succ d ihd =>
    intro i a hi ha
    have hil : i < l.length := by omega
    have hx := hs _ (List.getElem_mem hil)
    have hgl := goodL_len (hg _ (List.getElem_mem hil))
    rw [lnL_drop l i hil]
    have ha2 : a.length < 8796093022208 := by omega
    refine Ev.step (f := fun k => (line_Print.f k l[i].f0 (l[i].f1.map toP) l[i].f2).bind fun bt => if bt.2 = 0 then (if a.length < 8796093022208 then tree_lines.l0 k (a ++ [bt.1]) (l.map toL) (l.length : Int) ((i + 1 : Nat) : Int) nm (l.map toL) (ks.map toT) else none) else some ([], bt.2)) (fun k => ?_) (Ev.bind (printL l[i].f0 l[i].f2 (l[i].f1.map toP) hx.1 hx.2.1 (fun p hp => by obtain ⟨q, hq, rfl⟩ := List.mem_map.1 hp; exact hx.2.2 q hq) (fun _ => by have := hgl.1; omega)) ?_)
    · simp only [tree_lines.l0]
      rw [if_pos (by omega), if_pos (by omega), if_pos (by rw [List.length_map]; omega), rdPLm l i hil, wrapS i _ hil (by omega)]
    · by_cases h0 : (printR l[i].f0 (l[i].f1.map toP) l[i].f2).2 = 0
      · refine Ev.congr (fun k => by rw [if_pos h0, if_pos ha2]) ?_
        rw [if_pos h0]
        exact ihd (i + 1) _ (by omega) (by rw [List.length_append, List.length_singleton]; omega)
      · refine Ev.congr (f := fun _ => some ([], (printR l[i].f0 (l[i].f1.map toP) l[i].f2).2)) (fun k => by rw [if_neg h0]) ?_
        rw [if_neg h0]
        unfold lnTl
        rw [if_neg (show ¬ (([] : List ByteArray), (printR l[i].f0 (l[i].f1.map toP) l[i].f2).2).2 = 0 from h0)]
        exact Ev.now _
theorem nLs_mem : ∀ (l : List RT) (t : RT), t ∈ l → nL t ≤ nLs l
  | x :: r, t, h => by
    simp only [nLs]
    rcases List.mem_cons.1 h with rfl | h
    · omega
    · have := nLs_mem r t h; omega
theorem linesP : ∀ (N : Nat) (t : RT), SizeOf.sizeOf t < N → TB t → TS t → goodT t → nL t ≤ 500000 → Ev (fun k => tree_lines.f k t.f0 (t.f1.map toL) (t.f2.map toT)) (lnT t)
  | 0, t, h, _, _ => by omega
  | N + 1, t, h, hb, hs => by
    intro hg hn
    obtain ⟨⟨h1, h2⟩, h3, h4⟩ := TB_of hb
    obtain ⟨s1, s2, s3⟩ := TS_of hs
    obtain ⟨g1, g2⟩ := goodT_of hg
    rw [nL_f] at hn
    rw [lnT_f]
    have n0 := linesP_l0 t.f0 t.f1 t.f2 h1 s2 g1 (1 + t.f1.length) (by omega) (fun a ha => by
      have n1 := linesP_l1 t.f0 (t.f1.map toL) t.f2 s1 (by omega) (fun x hx => linesP N x (by have := kid_lt hx; omega) (h4 x hx) (s3 x hx) (g2 x hx) (by have := nLs_mem _ x hx; omega)) t.f2.length 0 a (by omega) (by rw [List.drop_zero]; omega)
      rw [List.drop_zero] at n1
      rw [List.length_map]
      exact n1) t.f1.length 0 [(⟨#[66, 69, 71, 73, 78, 58]⟩ : ByteArray) ++ t.f0] (by omega) (by rw [List.length_singleton]; exact Nat.le_refl _)
    rw [List.drop_zero] at n0
    exact Ev.step (fun k => by simp only [tree_lines.f]; rw [if_pos (by omega), List.length_map]; rfl) n0
def prT (t : RT) : ByteArray × Int := if formT t = true then (if (lnT t).2 = 0 then foldA (lnT t).1 else (⟨#[]⟩, (lnT t).2)) else (⟨#[]⟩, 1)
theorem prTP (t : RT) (hb : TB t) (hs : TS t) (hg : formT t = true → goodT t ∧ nL t ≤ 50000) : Ev (fun k => tree_Print.f k t.f0 (t.f1.map toL) (t.f2.map toT)) (prT t) := by
  have h1 := formTP t hb hs
  unfold prT
  refine Ev.bind h1 ?_
  cases hf : formT t with
  | false => exact Ev.congr (f := fun _ => some (⟨#[]⟩, 1)) (fun k => by rw [if_neg (by simp)]) (by rw [if_neg (by simp)]; exact Ev.now _)
  | true =>
    obtain ⟨g1, g2⟩ := hg hf
    have hok : okT 4 t = true := by unfold formT at hf; simp only [Bool.and_eq_true] at hf; exact hf.1
    rw [if_pos rfl]
    refine Ev.congr (fun k => by rw [if_pos rfl]) (Ev.bind (linesP _ t (Nat.lt_succ_self _) hb hs g1 (by omega)) ?_)
    by_cases h0 : (lnT t).2 = 0
    · rw [show (if (lnT t).2 = 0 then foldA (lnT t).1 else ((⟨#[]⟩ : ByteArray), (lnT t).2)) = foldA (lnT t).1 from if_pos h0]
      have hsz := lnT_size _ t (Nat.lt_succ_self _) 4 hok
      have hf : fold_Fold.f (lnT t).1 = some (foldA (lnT t).1) := by unfold fold_Fold.f; rw [if_pos (fun x hx => by have := hsz x hx; omega)]
      refine Ev.congr (f := fun _ => some (foldA (lnT t).1)) (fun k => ?_) (Ev.now _)
      rw [if_pos h0, hf]; rfl
    · rw [show (if (lnT t).2 = 0 then foldA (lnT t).1 else ((⟨#[]⟩ : ByteArray), (lnT t).2)) = (⟨#[]⟩, (lnT t).2) from if_neg h0]
      exact Ev.congr (f := fun _ => some (⟨#[]⟩, (lnT t).2)) (fun k => by rw [if_neg h0]) (Ev.now _)
end Go.Proofs.YtdojmdbaiddkgaaGreatDoor.Pure
end
section
set_option linter.unusedVariables false
set_option linter.unusedSimpArgs false
set_option linter.unusedSectionVars false
namespace Go.Proofs.YtdojmdbaiddkgaaGreatDoor.Pure
open Go.RowKit Go.Proofs.YtdojmdbaiddkgaaGreatDoor.Print Go.Proofs.YtdojmdbaiddkgaaGreatDoorW.PrintWords Go.Proofs.YtdojmdbaiddkgaaGreatDoorW.PrintLast Go.Proofs.YtdojmdbaiddkgaaGreatDoorW.PrintMore
theorem up_sign (c : UInt8) (h : upB c = true) : signS c = true := by
  have h1 : ∀ c : Fin 256, upB (UInt8.ofFin c) = true → signS (UInt8.ofFin c) = true := by decide +kernel
  exact h1 c.toFin h
theorem up_great (c : UInt8) (h : upB c = true) : greatB c = c := by
  have h1 : ∀ c : Fin 256, upB (UInt8.ofFin c) = true → greatB (UInt8.ofFin c) = UInt8.ofFin c := by decide +kernel
  exact h1 c.toFin h
theorem up_low (c : UInt8) (h : upB c = true) : c.toNat < 128 := by
  have h1 : ∀ c : Fin 256, upB (UInt8.ofFin c) = true → (UInt8.ofFin c).toNat < 128 := by decide +kernel
  exact h1 c.toFin h
theorem sign_58 : signS 58 = false := by decide +kernel
theorem sign_59 : signS 59 = false := by decide +kernel
theorem sign_61 : signS 61 = false := by decide +kernel
theorem nameEnd_of : ∀ (l : List UInt8) (c : UInt8) (t : List UInt8) (n : Nat), l.all upB = true → l.length ≤ n → signS c = false → nameEnd (l ++ c :: t) n = l.length
  | [], c, t, n, _, _, hc => by
    cases n with
    | zero => exact nameEnd_zero _
    | succ n => exact nameEnd_no c t n hc
  | x :: l, c, t, n, h, hl, hc => by
    rw [List.all_cons, Bool.and_eq_true] at h
    cases n with
    | zero => simp at hl
    | succ n =>
      rw [List.cons_append, nameEnd_yes x _ n (up_sign x h.1), nameEnd_of l c t n h.2 (by simpa using hl) hc]; rfl
theorem map_great : ∀ l : List UInt8, l.all upB = true → l.map greatB = l
  | [], _ => rfl
  | x :: t, h => by
    rw [List.all_cons, Bool.and_eq_true] at h
    rw [List.map_cons, up_great x h.1, map_great t h.2]
theorem great_of (s : ByteArray) (h : s.data.toList.all upB = true) : greatS s = s := by
  unfold greatS; rw [map_great _ h, ba_backB]
theorem nameR_of {s : ByteArray} (h : nameR s = true) : s.data.toList.all upB = true ∧ 1 ≤ s.size ∧ s.size ≤ 60 := by
  unfold nameR at h
  rw [Bool.and_eq_true, Bool.and_eq_true, decide_eq_true_eq, decide_eq_true_eq] at h; exact h
theorem plain_q (c : UInt8) : plainV c = !(qB c) := by
  unfold plainV qB
  cases c == 34 <;> cases c == 58 <;> cases c == 59 <;> cases c == 44 <;> rfl
theorem takeW_of : ∀ (l : List UInt8) (c : UInt8) (t : List UInt8), l.any qB = false → plainV c = false → (l ++ c :: t).takeWhile plainV = l
  | [], c, t, _, hc => by rw [List.nil_append, List.takeWhile_cons, if_neg (by simp [hc])]
  | x :: l, c, t, h, hc => by
    rw [List.any_cons, Bool.or_eq_false_iff] at h
    rw [List.cons_append, List.takeWhile_cons, if_pos (by rw [plain_q, h.1]; rfl), takeW_of l c t h.2 hc]
theorem idx_34r : ∀ (l r : List UInt8), l.any (· == 34) = false → Lib.indexByte (l ++ 34 :: r) 34 = (l.length : Int)
  | [], r, _ => rfl
  | c :: t, r, h => by
    rw [List.any_cons, Bool.or_eq_false_iff] at h
    have ih := idx_34r t r h.2
    show Lib.indexByte (c :: (t ++ 34 :: r)) 34 = _
    unfold Lib.indexByte
    rw [h.1, ih]
    have hn : (((t.length : Nat) : Int) == -1) = false := beq_eq_false_iff_ne.2 (by omega)
    rw [hn]
    simp
theorem valEnd_par (x : List UInt8) (c : UInt8) (t : List UInt8) (hc : plainV c = false) (hc2 : c ≠ 34) : valEnd (parL x ++ c :: t) = some (parL x).length := by
  by_cases hq : x.any quoB = true
  · have hL : parL x = 34 :: (parT x ++ [34]) := by unfold parL; rw [if_pos hq]; rfl
    unfold valEnd
    rw [hL]
    rw [if_pos (by rfl)]
    have e : (List.drop 1 (34 :: (parT x ++ [34]) ++ c :: t)) = parT x ++ 34 :: (c :: t) := by simp
    rw [e, idx_34r _ _ (par_34 x), if_neg (by omega)]
    simp
  · have hL : parL x = parT x := by unfold parL; rw [if_neg hq]
    have ha : (parT x).any qB = false := by rw [par_any]; simpa using hq
    unfold valEnd
    rw [hL, takeW_of _ _ _ ha hc, if_neg]
    cases hp : parT x with
    | nil => intro e; exact hc2 (by simpa using e)
    | cons y u =>
      rw [hp, List.any_cons, Bool.or_eq_false_iff] at ha
      intro e
      have e2 : y = 34 := by simpa using e
      rw [e2] at ha
      exact absurd ha.1 (by decide)
theorem up_valid : ∀ (l s : List UInt8), l.all upB = true → Lib.validD (l ++ s) = Lib.validD s
  | [], s, _ => rfl
  | x :: l, s, h => by
    rw [List.all_cons, Bool.and_eq_true] at h
    rw [List.cons_append, Lib.validD_cons _ _ (up_low x h.1), up_valid l s h.2]
theorem parL_valid (x s : List UInt8) (h : Lib.validD x = true) : Lib.validD (parL x ++ s) = Lib.validD s := by
  by_cases hq : x.any quoB = true
  · have hL : parL x = 34 :: (parT x ++ [34]) := by unfold parL; rw [if_pos hq]; rfl
    rw [hL, List.cons_append, Lib.validD_cons _ _ (by decide), List.append_assoc, par_valid x.length x _ (Nat.le_refl _) h]
    show Lib.validD (34 :: s) = _
    rw [Lib.validD_cons _ _ (by decide)]
  · have hL : parL x = parT x := by unfold parL; rw [if_neg hq]
    rw [hL, par_valid x.length x _ (Nat.le_refl _) h]
theorem valsT_valid : ∀ (l : List ByteArray) (b : UInt8) (s : List UInt8), b.toNat < 128 → (∀ x ∈ l, cleanR true x.data.toList = 0) → Lib.validD (valsT l b ++ s) = Lib.validD s
  | [], b, s, _, _ => rfl
  | x :: l, b, s, hb, h => by
    rw [valsT, List.cons_append, List.cons_append, Lib.validD_cons _ _ hb, List.append_assoc, parL_valid _ _ (clean_true (h x (by simp))).1]
    exact valsT_valid l 44 s (by decide) (fun y hy => h y (by simp [hy]))
theorem parsT_valid : ∀ (l : List LP) (s : List UInt8), (∀ p ∈ l, parR p.f0 p.f1 = true) → Lib.validD (parsT l ++ s) = Lib.validD s
  | [], s, _ => rfl
  | p :: l, s, h => by
    have hp := parR_of (h p (by simp))
    rw [parsT, List.cons_append, List.cons_append, List.cons_append, Lib.validD_cons _ _ (by decide), List.append_assoc, List.append_assoc, up_valid _ _ (nameR_of hp.1).1, valsT_valid _ _ _ (by decide) hp.2.2.2]
    exact parsT_valid l s (fun q hq => h q (by simp [hq]))
theorem line_valid {nm v : ByteArray} {l : List LP} (h : formR nm l v = true) : Lib.validD (lineT nm l v) = true := by
  obtain ⟨h1, h2, h3, h4⟩ := formR_of h
  unfold lineT
  rw [List.append_assoc, up_valid _ _ (nameR_of h1).1, parsT_valid _ _ (okPs_all _ _ h4), Lib.validD_cons _ _ (by decide)]
  unfold cleanR at h3
  by_cases hv : Lib.validD v.data.toList = true
  · exact hv
  · rw [if_neg hv] at h3; exact absurd h3 (by decide)
end Go.Proofs.YtdojmdbaiddkgaaGreatDoor.Pure
end
section
set_option linter.unusedVariables false
set_option linter.unusedSimpArgs false
set_option linter.unusedSectionVars false
namespace Go.Proofs.YtdojmdbaiddkgaaGreatDoor.Pure
open Go.RowKit Go.Proofs.YtdojmdbaiddkgaaGreatDoor.Print Go.Proofs.YtdojmdbaiddkgaaGreatDoorW.PrintWords Go.Proofs.YtdojmdbaiddkgaaGreatDoorW.PrintLast Go.Proofs.YtdojmdbaiddkgaaGreatDoorW.PrintMore
theorem szF {s : ByteArray} {L : List UInt8} (h : s.data.toList = L) : s.size = L.length := by rw [← h, Array.length_toList]; rfl
theorem ba_ext {a b : ByteArray} (h : a.data.toList = b.data.toList) : a = b := by rw [← ba_backB a, ← ba_backB b, h]
theorem extF (s : ByteArray) (p q : Nat) : (s.extract p (p + q)).data.toList = (s.data.toList.drop p).take q := by
  rw [ByteArray.data_extract, Array.toList_extract, List.extract_eq_take_drop, Nat.add_sub_cancel_left]
theorem peekF (s : ByteArray) (A R : List UInt8) (c : UInt8) (h : s.data.toList = A ++ c :: R) : line_reader_peek.f s (A.length : Int) 0 = some ((c.toNat : Int), s, (A.length : Int), 0) := by
  have hz := szF h
  rw [List.length_append, List.length_cons] at hz
  have hb := bt_nat s A.length
  have e : s.data.toList.getD A.length 0 = c := by rw [h]; simp
  rw [e] at hb
  unfold line_reader_peek.f
  rw [if_pos rfl, if_neg (by omega), if_pos (by omega), if_pos (by omega), hb]
theorem nameF (s nm : ByteArray) (A R : List UInt8) (c : UInt8) (h : s.data.toList = A ++ (nm.data.toList ++ c :: R)) (hn : nameR nm = true) (hc : signS c = false) (hs : s.size ≤ 2000) : line_reader_name.f s (A.length : Int) 0 = some (nm, s, ((A.length + nm.size : Nat) : Int), 0) := by
  obtain ⟨h1, h2, h3⟩ := nameR_of hn
  have hz := szF h
  have e2 : nm.data.toList.length = nm.size := by simp
  simp only [List.length_append, List.length_cons] at hz
  have e : s.data.toList.drop A.length = nm.data.toList ++ c :: R := by rw [h, List.drop_left' rfl]
  have hne : nameEnd (nm.data.toList ++ c :: R) 60 = nm.size := by rw [nameEnd_of _ c R 60 h1 (by omega) hc, e2]
  have hx : s.extract A.length (A.length + nm.size) = nm := by
    apply ba_ext
    rw [extF, e, List.take_left' e2]
  unfold line_reader_name.f
  rw [if_pos ⟨rfl, by omega, by omega, by omega⟩, Int.toNat_natCast, e, hne, if_neg (by omega), hx, great_of _ h1]
theorem valueF (s x : ByteArray) (A R : List UInt8) (c : UInt8) (h : s.data.toList = A ++ (parL x.data.toList ++ c :: R)) (hx : cleanR true x.data.toList = 0) (hc : plainV c = false) (hc2 : c ≠ 34) (hs : s.size ≤ 2000) :
    Ev (fun k => line_reader_value.f k s (A.length : Int) 0) (x, s, ((A.length + (parL x.data.toList).length : Nat) : Int), 0) := by
  have hz := szF h
  simp only [List.length_append, List.length_cons] at hz
  have e : s.data.toList.drop A.length = parL x.data.toList ++ c :: R := by rw [h, List.drop_left' rfl]
  have hv := valEnd_par x.data.toList c R hc hc2
  have hpd : (parW x).data.toList = parL x.data.toList := by simp [parW]
  have hex : s.extract A.length (A.length + (parL x.data.toList).length) = parW x := by
    apply ba_ext
    rw [extF, e, List.take_left' rfl, hpd]
  have hpz := szF hpd
  have h1 := esc_value (parW x) (by omega)
  rw [value_par x hx] at h1
  refine Ev.congr (f := fun k => (escape_Value.f k (parW x)).bind fun p => some (p.1, s, if p.2 = 0 then ((A.length + (parL x.data.toList).length : Nat) : Int) else (A.length : Int), if p.2 = 0 then 0 else 7)) (fun k => ?_) (Ev.bind h1 (Ev.now _))
  unfold line_reader_value.f
  rw [if_pos ⟨rfl, by omega, by omega, by omega⟩, Int.toNat_natCast, e, hv, ← hex]
theorem is44 (d : UInt8) (h : d ≠ 44) : (((d.toNat : Nat) : Int) == 44) = false := beq_eq_false_iff_ne.2 fun e => by
  have h1 : d.toNat = 44 := by omega
  exact h (UInt8.toNat_inj.1 h1)
/-- One value of a parameter. -/
theorem paramS (s nm v : ByteArray) (x5 : Int) (hs : s.size ≤ 2000) (acc : List ByteArray) (A R : List UInt8) (b d : UInt8) (h : s.data.toList = A ++ (b :: (parL v.data.toList ++ d :: R))) (hv : cleanR true v.data.toList = 0) (hd : plainV d = false) (hd2 : d ≠ 34) (hl : acc.length < 60)
    {r : ByteArray × List ByteArray × ByteArray × Int × Int} (next : Ev (fun k => line_reader_param.l0 k x5 (((d.toNat : Nat) : Int) == 44) s ((A.length + (1 + (parL v.data.toList).length) : Nat) : Int) 0 nm (acc ++ [v])) r) :
    Ev (fun k => line_reader_param.l0 k x5 true s (A.length : Int) 0 nm acc) r := by
  have h2 : s.data.toList = (A ++ [b]) ++ (parL v.data.toList ++ d :: R) := by rw [h]; simp
  have h3 : s.data.toList = (A ++ b :: parL v.data.toList) ++ d :: R := by rw [h]; simp
  have hV := valueF s v (A ++ [b]) R d h2 hv hd hd2 hs
  have hP := peekF s _ R d h3
  have hz := szF h3
  have e1 : (A ++ [b]).length = A.length + 1 := by simp
  have e2 : (A ++ b :: parL v.data.toList).length = A.length + (1 + (parL v.data.toList).length) := by simp; omega
  rw [List.length_append, e2] at hz
  rw [e1, Nat.add_assoc] at hV
  rw [e2] at hP
  have hb : acc.length < 8796093022208 := by omega
  refine Ev.step (f := fun k => line_reader_param.j5 k x5 true s (A.length : Int) 0 nm acc) (fun k => by simp only [line_reader_param.l0]; rfl) ?_
  refine Ev.step (f := fun k => (line_reader_value.f k s ((A.length + 1 : Nat) : Int) 0).bind fun q => (line_reader_peek.f q.2.1 q.2.2.1 q.2.2.2).bind fun p => line_reader_param.l0 k x5 (p.1 == 44) p.2.1 p.2.2.1 p.2.2.2 nm (acc ++ [q.1])) (fun k => by
    simp only [line_reader_param.j5, if_pos hb]
    rw [if_pos trivial, if_neg (by omega), wrapS A.length s.size (by omega) (by omega)]) ?_
  refine Ev.bind hV ?_
  exact Ev.congr (fun k => by show Option.bind (line_reader_peek.f s ((A.length + (1 + (parL v.data.toList).length) : Nat) : Int) 0) _ = _; rw [hP]; rfl) next
theorem paramL (s nm : ByteArray) (x5 : Int) (hs : s.size ≤ 2000) (c : UInt8) (R : List UInt8) (hc : plainV c = false) (hc2 : c ≠ 34) (hc3 : c ≠ 44) :
    ∀ (l : List ByteArray) (v : ByteArray) (acc : List ByteArray) (A : List UInt8) (b : UInt8), s.data.toList = A ++ (valsT (v :: l) b ++ c :: R) → (∀ x ∈ v :: l, cleanR true x.data.toList = 0) → acc.length + (v :: l).length ≤ 60 →
    Ev (fun k => line_reader_param.l0 k x5 true s (A.length : Int) 0 nm acc) (nm, acc ++ v :: l, s, ((A.length + (valsT (v :: l) b).length : Nat) : Int), 0)
  | [], v, acc, A, b, h, hcl, hl => by
    have e : valsT [v] b = b :: parL v.data.toList := by simp [valsT]
    rw [e] at h ⊢
    refine paramS s nm v x5 hs acc A R b c (by rw [h]; simp) (hcl v (by simp)) hc hc2 (by simp at hl; omega) ?_
    rw [is44 c hc3]
    have e3 : (b :: parL v.data.toList).length = 1 + (parL v.data.toList).length := by simp; omega
    rw [e3]
    refine Ev.step (f := fun k => line_reader_param.j5 k x5 false s ((A.length + (1 + (parL v.data.toList).length) : Nat) : Int) 0 nm (acc ++ [v])) (fun k => by simp only [line_reader_param.l0]; rfl) ?_
    exact Ev.step (f := fun _ => some (nm, acc ++ [v], s, ((A.length + (1 + (parL v.data.toList).length) : Nat) : Int), 0)) (fun k => by simp only [line_reader_param.j5]; rfl) (Ev.now _)
  | y :: u, v, acc, A, b, h, hcl, hl => by
    have e : valsT (v :: y :: u) b = b :: (parL v.data.toList ++ 44 :: (parL y.data.toList ++ valsT u 44)) := by simp [valsT]
    have e4 : valsT (y :: u) 44 = 44 :: (parL y.data.toList ++ valsT u 44) := by simp [valsT]
    rw [e] at h ⊢
    refine paramS s nm v x5 hs acc A (parL y.data.toList ++ valsT u 44 ++ c :: R) b 44 (by rw [h]; simp) (hcl v (by simp)) (by decide) (by decide) (by simp at hl; omega) ?_
    have ih := paramL s nm x5 hs c R hc hc2 hc3 u y (acc ++ [v]) (A ++ b :: parL v.data.toList) 44 (by rw [h, e4]; simp) (fun x hx => hcl x (by simp at hx ⊢; exact .inr hx)) (by simp at hl ⊢; omega)
    have e2 : (A ++ b :: parL v.data.toList).length = A.length + (1 + (parL v.data.toList).length) := by simp; omega
    have e5 : A.length + (1 + (parL v.data.toList).length) + (valsT (y :: u) 44).length = A.length + (b :: (parL v.data.toList ++ 44 :: (parL y.data.toList ++ valsT u 44))).length := by rw [e4]; simp; omega
    rw [e2, e5, List.append_assoc] at ih
    exact ih
theorem paramF (s : ByteArray) (p : LP) (l : List LP) (A R : List UInt8) (c : UInt8) (h : s.data.toList = A ++ (p.f0.data.toList ++ (valsT p.f1 61 ++ c :: R))) (hp : parR p.f0 p.f1 = true) (hl : l.length < 60) (hn : l.any (hasN p.f0) = false) (hc : plainV c = false) (hc2 : c ≠ 34) (hc3 : c ≠ 44) (hs : s.size ≤ 2000) :
    Ev (fun k => line_reader_param.f k s (A.length : Int) 0 l) (p.f0, p.f1, s, ((A.length + (p.f0.size + (valsT p.f1 61).length) : Nat) : Int), 0) := by
  obtain ⟨h1, h2, h3, h4⟩ := parR_of hp
  obtain ⟨v, u, hvu⟩ : ∃ v u, p.f1 = v :: u := by
    cases hq : p.f1 with
    | nil => rw [hq] at h2; simp at h2
    | cons v u => exact ⟨v, u, rfl⟩
  have e2 : p.f0.data.toList.length = p.f0.size := by simp
  have ev : valsT p.f1 61 = 61 :: (parL v.data.toList ++ valsT u 44) := by rw [hvu]; simp [valsT]
  have hN := nameF s p.f0 A (parL v.data.toList ++ valsT u 44 ++ c :: R) 61 (by rw [h, ev]; simp) h1 sign_61 hs
  have hP := peekF s (A ++ p.f0.data.toList) (parL v.data.toList ++ valsT u 44 ++ c :: R) 61 (by rw [h, ev]; simp)
  have e3 : (A ++ p.f0.data.toList).length = A.length + p.f0.size := by rw [List.length_append, e2]
  rw [e3] at hP
  have hi := idxN_any p.f0 l 0
  rw [hn] at hi
  have hL := paramL s p.f0 (A.length : Int) hs c R hc hc2 hc3 u v [] (A ++ p.f0.data.toList) 61 (by rw [h, ← hvu]; simp) (by rw [← hvu]; exact h4) (by rw [← hvu]; simp; omega)
  rw [← hvu, e3, List.nil_append, Nat.add_assoc] at hL
  refine Ev.congr (f := fun k => line_reader_param.j0 k l (A.length : Int) false s ((A.length + p.f0.size : Nat) : Int) 0 p.f0) (fun k => ?_) ?_
  · unfold line_reader_param.f
    rw [hN, Option.bind_some, if_pos (show (0 : Int) = 0 from rfl), hP]; rfl
  refine Ev.step (f := fun k => line_reader_param.j1 k l (A.length : Int) s ((A.length + p.f0.size : Nat) : Int) 0 p.f0) (fun k => by simp only [line_reader_param.j0]; rfl) ?_
  refine Ev.step (f := fun k => line_reader_param.j2 k (A.length : Int) false s ((A.length + p.f0.size : Nat) : Int) 0 p.f0) (fun k => by simp only [line_reader_param.j1]; rw [if_pos trivial, if_neg (by omega)]; unfold line_at.f; rw [Option.bind_some, hi]) ?_
  refine Ev.step (f := fun k => line_reader_param.j3 k (A.length : Int) s ((A.length + p.f0.size : Nat) : Int) 0 p.f0) (fun k => by simp only [line_reader_param.j2]; rfl) ?_
  exact Ev.step (f := fun k => line_reader_param.l0 k (A.length : Int) true s ((A.length + p.f0.size : Nat) : Int) 0 p.f0 []) (fun k => by simp only [line_reader_param.j3]) hL
theorem parseL (s : ByteArray) (R : List UInt8) (hs : s.size ≤ 2000) : ∀ (l acc : List LP) (A : List UInt8), s.data.toList = A ++ (parsT l ++ 58 :: R) → okPs acc l = true → acc.length + l.length ≤ 60 →
    Ev (fun k => line_Parse.l0 k s (A.length : Int) 0 acc) (acc ++ l, s, ((A.length + (parsT l).length : Nat) : Int), 0)
  | [], acc, A, h, hok, hl => by
    have hP := peekF s A R 58 (by rw [h]; rfl)
    refine Ev.step (f := fun _ => some (acc ++ [], s, ((A.length + (parsT []).length : Nat) : Int), 0)) (fun k => ?_) (Ev.now _)
    simp only [line_Parse.l0]
    rw [hP, List.append_nil]; rfl
  | p :: t, acc, A, h, hok, hl => by
    rw [okPs, Bool.and_eq_true, Bool.and_eq_true] at hok
    obtain ⟨h1, h2, h3⟩ := hok
    have h2 : acc.any (hasN p.f0) = false := by simpa using h2
    simp only [List.length_cons] at hl
    have e2 : p.f0.data.toList.length = p.f0.size := by simp
    have ep : parsT (p :: t) = 59 :: (p.f0.data.toList ++ (valsT p.f1 61 ++ parsT t)) := by rw [parsT]; simp
    rw [ep] at h ⊢
    have hz := szF h
    simp only [List.length_append, List.length_cons] at hz
    have hP := peekF s A (p.f0.data.toList ++ (valsT p.f1 61 ++ parsT t) ++ 58 :: R) 59 (by rw [h]; simp)
    obtain ⟨d, R', hd, hd1, hd2, hd3⟩ : ∃ d R', parsT t ++ 58 :: R = d :: R' ∧ plainV d = false ∧ d ≠ 34 ∧ d ≠ 44 := by
      cases t with
      | nil => exact ⟨58, R, rfl, by decide, by decide, by decide⟩
      | cons y u => exact ⟨59, _, by rw [parsT]; rfl, by decide, by decide, by decide⟩
    have hF := paramF s p acc (A ++ [59]) R' d (by rw [h, ← hd]; simp) h1 (by omega) h2 hd1 hd2 hd3 hs
    have e1 : (A ++ [59]).length = A.length + 1 := by simp
    rw [e1] at hF
    have ih := parseL s R hs t (acc ++ [p]) (A ++ 59 :: (p.f0.data.toList ++ valsT p.f1 61)) (by rw [h]; simp) h3 (by simp; omega)
    have e3 : (A ++ 59 :: (p.f0.data.toList ++ valsT p.f1 61)).length = A.length + 1 + (p.f0.size + (valsT p.f1 61).length) := by simp; omega
    have e4 : A.length + 1 + (p.f0.size + (valsT p.f1 61).length) + (parsT t).length = A.length + (59 :: (p.f0.data.toList ++ (valsT p.f1 61 ++ parsT t))).length := by simp; omega
    rw [e3, e4, List.append_assoc] at ih
    refine Ev.step (f := fun k => (line_reader_param.f k s ((A.length + 1 : Nat) : Int) 0 acc).bind fun q => line_Parse.l0 k q.2.2.1 q.2.2.2.1 q.2.2.2.2 (acc ++ [⟨q.1, q.2.1⟩])) (fun k => ?_) (Ev.bind hF ih)
    simp only [line_Parse.l0]
    rw [hP, Option.bind_some, if_pos (show (((59 : UInt8).toNat : Nat) : Int) = 59 from rfl), if_pos ⟨by omega, by omega⟩]; rfl
theorem parse_line (nm v : ByteArray) (l : List LP) (hf : formR nm l v = true) (hlen : (lineT nm l v).length ≤ 2000) : Ev (fun k => line_Parse.f k ⟨(lineT nm l v).toArray⟩) (nm, l, v, 0, 0) := by
  obtain ⟨h1, h2, h3, h4⟩ := formR_of hf
  have hv := line_valid hf
  obtain ⟨s, hs⟩ : ∃ s : ByteArray, s = ⟨(lineT nm l v).toArray⟩ := ⟨_, rfl⟩
  have hd : s.data.toList = lineT nm l v := by rw [hs]
  rw [← hs]
  clear hs
  have hz := szF hd
  rw [← hd] at hv
  unfold lineT at hd
  obtain ⟨c, R, hc, hc1⟩ : ∃ c R, parsT l ++ 58 :: v.data.toList = c :: R ∧ signS c = false := by
    cases l with
    | nil => exact ⟨58, _, rfl, sign_58⟩
    | cons y u => exact ⟨59, _, by rw [parsT]; rfl, sign_59⟩
  have e2 : nm.data.toList.length = nm.size := by simp
  have hN := nameF s nm [] R c (by rw [hd, List.append_assoc, hc]; rfl) h1 hc1 (by omega)
  have hL := parseL s v.data.toList (by omega) l [] nm.data.toList (by rw [hd, List.append_assoc]) h4 (by simpa using h2)
  rw [List.nil_append, e2] at hL
  have hP := peekF s (nm.data.toList ++ parsT l) v.data.toList 58 hd
  have hz2 := szF hd
  have e3 : (nm.data.toList ++ parsT l).length = nm.size + (parsT l).length := by rw [List.length_append, e2]
  rw [e3] at hP
  rw [List.length_append, e3, List.length_cons] at hz2
  have hx : s.extract (nm.size + (parsT l).length + 1) s.size = v := by
    apply ba_ext
    have e4 : s.size = nm.size + (parsT l).length + 1 + v.data.toList.length := by omega
    rw [e4, extF, hd]
    have e5 : (nm.data.toList ++ parsT l ++ 58 :: v.data.toList).drop (nm.size + (parsT l).length + 1) = v.data.toList := by
      rw [← e3]
      have : nm.data.toList ++ parsT l ++ 58 :: v.data.toList = (nm.data.toList ++ parsT l ++ [58]) ++ v.data.toList := by simp
      rw [this, List.drop_left' (by simp; omega)]
    rw [e5, List.take_of_length_le (Nat.le_refl _)]
  have hvs : v.size ≤ 2000 := by have : v.data.toList.length = v.size := by simp
                                 omega
  refine Ev.congr (f := fun k => (line_Parse.l0 k s ((nm.size : Nat) : Int) 0 []).bind fun q => line_Parse.g k s nm q.1 q.2.1 q.2.2.1 q.2.2.2) (fun k => ?_) (Ev.bind hL ?_)
  · unfold line_Parse.f utf8_ValidString.f
    rw [if_neg (by omega), if_pos (by omega), Option.bind_some, if_pos hv]
    have hN' : line_reader_name.f s 0 0 = some (nm, s, ((nm.size : Nat) : Int), 0) := by simpa using hN
    rw [hN']; rfl
  · refine Ev.congr (f := fun k => (escape_Clean.f k v false).bind fun z => if z = 0 then some (nm, l, v, 0, 0) else some (noLine (((nm.size + (parsT l).length : Nat) : Int) + 1) 7)) (fun k => ?_) ?_
    · show line_Parse.g k s nm l s ((nm.size + (parsT l).length : Nat) : Int) 0 = _
      unfold line_Parse.g
      rw [if_pos rfl, hP, Option.bind_some, if_pos (show (((58 : UInt8).toNat : Nat) : Int) = 58 from rfl), if_pos ⟨by omega, by omega⟩, Int.toNat_natCast, hx]
    · refine Ev.bind (escClean v false (by omega)) ?_
      rw [h3]; exact Ev.now _
end Go.Proofs.YtdojmdbaiddkgaaGreatDoor.Pure
end
section
namespace Go.Proofs.YtdojmdbaiddkgaaGreatDoor.Print
open Go.RowKit Go.Proofs.YtdojmdbaiddkgaaGreatDoorW.PrintWords Go.Proofs.YtdojmdbaiddkgaaGreatDoorW.PrintLast Go.Proofs.YtdojmdbaiddkgaaGreatDoorW.PrintMore
set_option linter.unusedVariables false
set_option linter.unusedSimpArgs false
def trystlaw10_Ours.l0 : Nat → Int → Int → ByteArray → List (S77) → ByteArray → ByteArray → List (S76) → ByteArray → Option (ByteArray × (List (S76)) × ByteArray)
 | 0, _, _, _, _, _, _, _, _ => none
 | k + 1, x12, x13, x308000, x308001, x308002, x310000, x310001, x310002 => if x13 < x12 then (if 0 ≤ x13 then (if x13 < (x308001.length : Int) then (if x310001.length < 3518437208883 then (trystlaw10_Ours.l0 k x12 (wrap64 (x13 + 1)) x308000 x308001 x308002 x310000 (x310001 ++ [(⟨(rd_T77 x308001 x13).f0, (rd_T77 x308001 x13).f1⟩ : S76)]) x310002) else (none)) else (none)) else (none)) else (some (x310000, x310001, x310002))
def trystlaw10_Ours.f (k : Nat) (a0_0 : ByteArray) (l0_1 : List (S77)) (a0_2 : ByteArray) : Option (ByteArray × (List (S76)) × ByteArray) := trystlaw10_Ours.l0 k (l0_1.length : Int) 0 a0_0 l0_1 a0_2 a0_0 ([] : List (S76)) a0_2
def trystlaw10_Ours.T5 : Bool × List (List Nat × List Nat) := (true, [([], []), ([0], [0]), ([], []), ([2], [2]), ([], []), ([3, 4], [3, 4]), ([5], [5]), ([6], [6]), ([1, 7], [1, 7]), ([0, 1, 2, 3, 4, 5, 6, 7, 8], []), ([9, 8, 8, 0, 1, 2, 3, 4, 5, 6, 7, 8], [8, 9])])
def trystlaw10_Ours.B5 : List Nat := [0, 1, 0, 4, 0, 28, 60, 124, 255, 511, 1023]
theorem trystlaw10_Ours.tab5 : rtab .any (opsOf Tryz.f31 5) = trystlaw10_Ours.T5 := by kernel_rfl
theorem trystlaw10_Ours.bits5 : waitsOk trystlaw10_Ours.T5.2 trystlaw10_Ours.B5 = true := by kernel_rfl
set_option maxHeartbeats 8000000 in
set_option maxRecDepth 100000 in
theorem trystlaw10_Ours.calls (k : Nat) (a0_0 : ByteArray) (P0_1_ : Nat → Prop) (A0_1 : Option Addr) (c0_1 : Nat) (l0_1 : List (S77)) (a0_2 : ByteArray) (r1 : ByteArray) (r2 : List (S76)) (r3 : ByteArray) (w : World) (hG : GG w) (hs0_1 : Kd.V k77 77 w w.heap.size (fun k_ => P0_1_ k_) (.slice A0_1 l0_1.length c0_1) l0_1) (h : trystlaw10_Ours.f k a0_0 l0_1 a0_2 = some (r1, r2, r3)) :
  Calls Tryz.prog 31 #[.agg #[.string a0_0, .slice A0_1 l0_1.length c0_1, .string a0_2]] w fun e w' => ∃ v1_ : Value, e = .returned (.agg #[.string r1, v1_, .string r3]) ∧ Kd.N k76 76 w' w.heap.size (fun k_ => (P0_1_ k_ ∨ w.heap.size ≤ k_)) v1_ r2 ∧ Below w.heap.size w w' := by
 have hu49 := Tryz.underlying49; have hu53 := Tryz.underlying53; have hu77 := Tryz.underlying77; have HO0_1 := Aside0.mk (show Kd.V k77 77 w w.heap.size (fun k_ => (P0_1_ k_ ∨ w.heap.size ≤ k_)) (.slice A0_1 l0_1.length c0_1) l0_1 from Kd.V_mono hs0_1 (fun k_ hk => .inl hk)); have HB := Aside0.mk (Below.refl w.heap.size w); have H : (trystlaw10_Ours.l0 k (l0_1.length : Int) 0 a0_0 l0_1 a0_2 a0_0 ([] : List (S76)) a0_2) = some (r1, r2, r3) := h; clear h; have H' := Aside0.mk H; clear H
 go_enter Tryz.func31, Tryz.ntmps31
 go_wp2_with (first | ((with_reducible refine gate_dst (N := 1) rfl ?_); refine zbox (N := 1) #[.string a0_0, .slice A0_1 l0_1.length c0_1, .string a0_2] 49 (fun gb307 hg w2 hbox hb => ?_); replace HO0_1 := Aside0.mk (Kd.V_below (Kd.V_elderB (Kd.V_below HO0_1.out zX) gb307 (Nat.le_of_eq hg.symm)) hb); replace BK307 := Aside0.mk hbox; replace GE307 := zg w hg; replace HB := zw hb; clear hb hbox hg) | ((with_reducible refine gate_dst (N := 2) rfl ?_); refine zbox (N := 2) #[.string (⟨#[]⟩ : ByteArray), .slice none 0 0, .string (⟨#[]⟩ : ByteArray)] 53 (fun gb308 hg w3 hbox hb => ?_); replace HO0_1 := Aside0.mk (Kd.V_below (Kd.V_elderB (Kd.V_below HO0_1.out zX) gb308 (Nat.le_of_eq hg.symm)) hb); replace BK308 := Aside0.mk hbox; replace GE308 := zg w hg; replace HB := zw hb; replace NB307_308 := zn BK307 hg; replace NB308_307 := zm BK307 hg; replace BK307 := zb BK307 hb; clear hb hbox hg; have hnb4 := NB307_308.out; have hnc4 := NB308_307.out; obtain ⟨hcz5_0, hcz5_1, hcz5_2, hfz5_0, hfz5_1, hfz5_2⟩ := zk3 BK307) | ((with_reducible refine gate_dst (N := 3) rfl ?_); refine zbox (N := 3) #[.string (⟨#[]⟩ : ByteArray), .slice none 0 0, .string (⟨#[]⟩ : ByteArray)] 53 (fun gb309 hg w6 hbox hb => ?_); replace HO0_1 := Aside0.mk (Kd.V_below (Kd.V_elderB (Kd.V_below HO0_1.out zX) gb309 (Nat.le_of_eq hg.symm)) hb); replace BK309 := Aside0.mk hbox; replace GE309 := zg w hg; replace HB := zw hb; replace NB307_309 := zn BK307 hg; replace NB309_307 := zm BK307 hg; replace BK307 := zb BK307 hb; replace NB308_309 := zn BK308 hg; replace NB309_308 := zm BK308 hg; replace BK308 := zb BK308 hb; clear hb hbox hg; have hnb7 := NB309_307.out; have hnc7 := NB307_309.out; have hnb8 := NB309_308.out; have hnc8 := NB308_309.out; obtain ⟨hcz9_0, hcz9_1, hcz9_2, hfz9_0, hfz9_1, hfz9_2⟩ := zk3 BK309; obtain ⟨hcz10_0, hcz10_1, hcz10_2, hfz10_0, hfz10_1, hfz10_2⟩ := zk3 BK307))
 go_loopg [13] k (fun kq v13 w' => ∃ (x13_1 : Int) (x310001_1 : List (S76)) (u310001 : Value), v13 = .int .i64 x13_1 ∧ Aside0 (trystlaw10_Ours.l0 kq (l0_1.length : Int) x13_1 a0_0 l0_1 a0_2 a0_0 x310001_1 a0_2 = some (r1, r2, r3)) ∧ Aside0 (kq ≤ k) ∧ Aside0 (Kd.V k77 77 w' w.heap.size (fun k_ => (P0_1_ k_ ∨ w.heap.size ≤ k_) ∧ some k_ ≠ (u310001 : Value).ownBlock ∧ k_ ≠ gb307 ∧ k_ ≠ gb308 ∧ k_ ≠ gb309) (.slice A0_1 l0_1.length c0_1) l0_1) ∧ Aside0 (Kd.N k76 76 w' w.heap.size (fun k_ => (P0_1_ k_ ∨ w.heap.size ≤ k_) ∧ k_ ≠ gb307 ∧ k_ ≠ gb308 ∧ k_ ≠ gb309) u310001 x310001_1) ∧ Aside0 (w'.heap[gb307]? = some (.cells #[.string a0_0, (.slice A0_1 l0_1.length c0_1), .string a0_2] 49 (0, 0))) ∧ Aside0 (w'.heap[gb308]? = some (.cells #[.string (⟨#[]⟩ : ByteArray), (.slice none 0 0), .string (⟨#[]⟩ : ByteArray)] 53 (0, 0))) ∧ Aside0 (w'.heap[gb309]? = some (.cells #[.string a0_0, u310001, .string a0_2] 53 (0, 0))) ∧ Aside0 (Below w.heap.size w w'))
 case atStart => exact ⟨(0), (([] : List (S76))), (.slice none 0 0), zS, H', ⟨Nat.le_refl _⟩, ⟨by (with_reducible repeat (first | apply Kd.V_alloc | apply Kd.V_drewN | apply Kd.V_drew)); exact Kd.V_mono (Kd.V_far (p := ⟨gb309, 2, none⟩) (Kd.V_far (p := ⟨gb309, 1, none⟩) (Kd.V_far (p := ⟨gb309, 0, none⟩) (Kd.V_mono HO0_1.out (fun k_ hk => (⟨hk, hk.2⟩ : _ ∧ k_ ≠ gb309))) (fun _ hk => hk.2) (.string a0_0)) (fun _ hk => hk.2) (.slice none 0 0)) (fun _ hk => hk.2) (.string a0_2)) (fun _ hk => ⟨hk.1.1.1.1, ⟨(by simp [Value.ownBlock]), ⟨hk.1.1.1.2, ⟨hk.1.1.2, hk.1.2⟩⟩⟩⟩)⟩, ⟨by first | exact Kd.S_nil _ _ _ _ _ | exact Kd.N_nil _ _ _ _ _ | exact Kd.V_nil _ _ _ _ _ | exact Kd.Q_nil _ _ _ _ _ | exact Kd.R_nil _ _ _ _ _⟩, ⟨by (with_reducible repeat (first | refine blk_drewN ?_ _ | refine blk_drew ?_ | refine blk_alloc ?_ _)); refine blk_far ?_ NB307_309.out _; (with_reducible repeat (first | refine blk_drewN ?_ _ | refine blk_drew ?_ | refine blk_alloc ?_ _)); refine blk_far ?_ NB307_309.out _; (with_reducible repeat (first | refine blk_drewN ?_ _ | refine blk_drew ?_ | refine blk_alloc ?_ _)); refine blk_far ?_ NB307_309.out _; (with_reducible repeat (first | refine blk_drewN ?_ _ | refine blk_drew ?_ | refine blk_alloc ?_ _)); exact BK307.out⟩, ⟨by (with_reducible repeat (first | refine blk_drewN ?_ _ | refine blk_drew ?_ | refine blk_alloc ?_ _)); refine blk_far ?_ NB308_309.out _; (with_reducible repeat (first | refine blk_drewN ?_ _ | refine blk_drew ?_ | refine blk_alloc ?_ _)); refine blk_far ?_ NB308_309.out _; (with_reducible repeat (first | refine blk_drewN ?_ _ | refine blk_drew ?_ | refine blk_alloc ?_ _)); refine blk_far ?_ NB308_309.out _; (with_reducible repeat (first | refine blk_drewN ?_ _ | refine blk_drew ?_ | refine blk_alloc ?_ _)); exact BK308.out⟩, ⟨by (with_reducible repeat (first | refine blk_drewN ?_ _ | refine blk_drew ?_ | refine blk_alloc ?_ _)); refine blk_put (cs := #[.string a0_0, .slice none 0 0, .string (⟨#[]⟩ : ByteArray)]) ?_ 2 _ rfl; (with_reducible repeat (first | refine blk_drewN ?_ _ | refine blk_drew ?_ | refine blk_alloc ?_ _)); refine blk_put (cs := #[.string a0_0, .slice none 0 0, .string (⟨#[]⟩ : ByteArray)]) ?_ 1 _ rfl; (with_reducible repeat (first | refine blk_drewN ?_ _ | refine blk_drew ?_ | refine blk_alloc ?_ _)); refine blk_put (cs := #[.string (⟨#[]⟩ : ByteArray), .slice none 0 0, .string (⟨#[]⟩ : ByteArray)]) ?_ 0 _ rfl; (with_reducible repeat (first | refine blk_drewN ?_ _ | refine blk_drew ?_ | refine blk_alloc ?_ _)); exact BK309.out⟩, ⟨zB⟩⟩
 case round =>
  clear H'; clear hcz10_0 hcz10_1 hcz10_2 hcz5_0 hcz5_1 hcz5_2 hcz9_0 hcz9_1 hcz9_2 hfz10_0 hfz10_1 hfz10_2 hfz5_0 hfz5_1 hfz5_2 hfz9_0 hfz9_1 hfz9_2; obtain ⟨x13_1, x310001_1, u310001, rfl, HA, HK1, HO_308001, HO_310001, BK307, BK308, BK309, HB⟩ := hrel
  cases gk with
  | zero => exact absurd HA.out (by simp [trystlaw10_Ours.l0])
  | succ k1 =>
   have H := HA.out; clear HA; simp only [trystlaw10_Ours.l0] at H; replace H := zId H; rcases H with ⟨-, c11b0, H⟩ | ⟨-, c11b0, H⟩
   ·replace H := zJJ H; obtain ⟨c12b0, c13b0, H⟩ := H; replace H := zJ H; obtain ⟨c14, H⟩ := H; have LMc14 := Aside0.mk c14; clear c14; obtain ⟨y311, hy311⟩ : ∃ y_ : List (S76), y_ = (x310001_1 ++ [(⟨(rd_T77 l0_1 x13_1).f0, (rd_T77 l0_1 x13_1).f1⟩ : S76)]) := ⟨_, rfl⟩; replace H : (trystlaw10_Ours.l0 k1 (l0_1.length : Int) (wrap64 (x13_1 + 1)) a0_0 l0_1 a0_2 a0_0 y311 a0_2) = some (r1, r2, r3) := by first | (rw [hy311]; with_reducible exact H) | (have H2_ := (Option.bind_some _ _).symm.trans H; rw [hy311]; with_reducible exact H2_) | (have H2_ := (Option.bind_some _ _).symm.trans H; with_reducible exact H2_) | with_reducible exact H | (rw [hy311]; exact H) | exact H
    have Ny311 := Aside0.mk hy311; clear hy311; have H' := Aside0.mk H; clear H
    try go_wp2
    replace HO_308001 := Aside0.mk (Kd.V_drew HO_308001.out); replace HO_310001 := Aside0.mk (Kd.N_drew HO_310001.out); replace BK307 := Aside0.mk (blk_drew BK307.out); replace BK308 := Aside0.mk (blk_drew BK308.out); replace BK309 := Aside0.mk (blk_drew BK309.out); replace HB := Aside0.mk (below_drew1 HB.out); have p310 := zQ (0 ≤ (x13_1 : Int)); have q310 := zQ (x13_1 < (l0_1.length : Int)); obtain ⟨ad310, A310_1, c310_1, e310, hx310_0, hx310_1, hl310_1, hi310_1⟩ := at_T77 (Kd.V_reads' HO_308001.out).2.2 x13_1 p310 q310
    cases e310
    obtain ⟨ce310, hce310, hMe310, hcc310⟩ := Kd.V_get HO_308001.out z77 x13_1 p310 (by first | exact q310 | exact of_decide_eq_true (by first | (with_reducible assumption) | assumption) | (have e_ := (Kd.V_reads' HO_308001.out).1; omega)); obtain ⟨ua310_1, uc310_1, rfl, ul310_1, ge310_1⟩ := k77_openF hMe310; have hv310_1 := hcc310 1 _ rfl; rw [add_field _ _ 1 (by omega)] at hv310_1; replace hv310_1 := Option.some.inj (hv310_1.symm.trans hx310_1)
    injection hv310_1 with hva_ hvn_ hvc_
    rw [hva_] at ge310_1; rw [hvc_] at ul310_1; have HL310_1 := Aside0.mk (show Kd.V Kd.string 9 _ w.heap.size _ _ ((rd_T77 l0_1 x13_1).f1) from Kd.V_mk ul310_1 ge310_1); clear hva_ hvn_ hvc_ ge310_1 ul310_1; clear hcc310 hce310; have HR310_1 := Aside0.mk hi310_1; have HC310_1 := Aside0.mk hl310_1; clear hi310_1 hl310_1; replace p310 := eq_true p310; replace q310 := eq_true q310
    refine start_ (n := 11) (S := fun w' => w'.cell? ⟨gb309, 0, none⟩ = some (.string a0_0) ∧ w'.cell? ⟨gb309, 1, none⟩ = some (u310001) ∧ w'.cell? ⟨gb309, 2, none⟩ = some (.string a0_2) ∧ w'.cell? ⟨gb307, 0, none⟩ = some (.string a0_0) ∧ w'.cell? ⟨gb307, 1, none⟩ = some (.slice (some ad310) l0_1.length c0_1) ∧ w'.cell? ⟨gb307, 2, none⟩ = some (.string a0_2) ∧ w'.cell? (ad310.add ((x13_1).toNat * 2)) = some (.string ((rd_T77 l0_1 x13_1).f0)) ∧ w'.cell? ⟨(ad310.add ((x13_1).toNat * 2)).block, (ad310.add ((x13_1).toNat * 2)).off + 1, none⟩ = some (.slice A310_1 ((rd_T77 l0_1 x13_1).f1).length c310_1)) (ds := [8, 10]) (bs 11 0) (by kernel_rfl) rfl rfl ⟨(blk_cell BK309.out 0).trans rfl, (blk_cell BK309.out 1).trans rfl, (blk_cell BK309.out 2).trans rfl, (blk_cell BK307.out 0).trans rfl, (blk_cell BK307.out 1).trans rfl, (blk_cell BK307.out 2).trans rfl, hx310_0, hx310_1⟩ (fun hHeld => ?_); refine with_tabW trystlaw10_Ours.tab5 trystlaw10_Ours.bits5 (fun HT_ HW_ => ?_)
    generalize wr.drew = w15 at HO_308001 HO_310001 BK307 BK308 BK309 HB HL310_1 HR310_1 hx310_0 hx310_1 hHeld ⊢; refine zp 0 16 (bs 11 1) ?_; refine zp 2 18 (bs 11 5) ?_; refine zp 4 20 (bs 11 21) ?_; refine zt 1 17 (bs 11 23) ?_; refine zt 3 19 (bs 11 31) ?_; refine zp 5 21 (bs 11 63) ?_; refine zt 6 22 (bs 11 127) ?_; refine one_ (i := 7) (N := some 23) (bs 11 255) rfl rfl (one_of HT_.out (by kernel_rfl)) (by decide) (fun K hK => ?_); refine value_ (w1 := ?_) (v := ?_) (by rfl) rfl ?_ ?_; rotate_left 2
    ·go_simp
     constructor
     ·rfl
     ·rfl
    refine hK.out _ _ ⟨(blk_cell (blk_alloc BK309.out _) 0).trans rfl, (blk_cell (blk_alloc BK309.out _) 1).trans rfl, (blk_cell (blk_alloc BK309.out _) 2).trans rfl, (blk_cell (blk_alloc BK307.out _) 0).trans rfl, (blk_cell (blk_alloc BK307.out _) 1).trans rfl, (blk_cell (blk_alloc BK307.out _) 2).trans rfl, (World.cell?_alloc_lt _ _ _ (World.block_lt_of_cell? _ _ (hHeld.2.2.2.2.2.2.1))).trans (hHeld.2.2.2.2.2.2.1), (World.cell?_alloc_lt _ _ _ (World.block_lt_of_cell? _ _ (hHeld.2.2.2.2.2.2.2))).trans (hHeld.2.2.2.2.2.2.2)⟩ (fun hHeld => ?_); clear hK K; refine zr ?_; refine last_ (i := 8) (N := some 24) (bs 11 511) rfl rfl (one_of HT_.out (by kernel_rfl)) (by decide) (fun K hK => ?_)
    refine Kd.N_append_step k76 (w0 := w) w.heap.size (by rfl) (.tmp 17) (.tmp 23) 51 76 (.agg #[(.string ⟨#[]⟩), (.slice none 0 0)]) 40 rfl Tryz.underlying51 info76 rfl (by decide) (by omega) u310001 x310001_1 (⟨(rd_T77 l0_1 x13_1).f0, (rd_T77 l0_1 x13_1).f1⟩ : S76) [.string ((rd_T77 l0_1 x13_1).f0), .slice A310_1 ((rd_T77 l0_1 x13_1).f1).length c310_1] (fun k_ => (P0_1_ k_ ∨ w.heap.size ≤ k_) ∧ k_ ≠ gb307 ∧ k_ ≠ gb308 ∧ k_ ≠ gb309) (fun k_ => ((fun k_ => (P0_1_ k_ ∨ w.heap.size ≤ k_) ∧ k_ ≠ gb307 ∧ k_ ≠ gb308 ∧ k_ ≠ gb309)) k_ ∧ some k_ ≠ (u310001 : Value).ownBlock) rfl rfl ?aP (fun _ hk => hk) ?aF ?aO ?aB ?aS ?aL ?_
    (case aP => exact (k76_mkF _ _ (⟨(rd_T77 l0_1 x13_1).f0, (rd_T77 l0_1 x13_1).f1⟩ : S76) (Kd.V_reads' (Kd.V_mono (ok' := (fun k_ => ((fun k_ => (P0_1_ k_ ∨ w.heap.size ≤ k_) ∧ k_ ≠ gb307 ∧ k_ ≠ gb308 ∧ k_ ≠ gb309)) k_ ∧ some k_ ≠ (u310001 : Value).ownBlock)) (HL310_1.out) (fun k_ hk => ⟨⟨hk.1, ⟨hk.2.2.1, ⟨hk.2.2.2.1, hk.2.2.2.2⟩⟩⟩, hk.2.1⟩))).2.1 (Kd.V_F (Kd.V_mono (ok' := (fun k_ => ((fun k_ => (P0_1_ k_ ∨ w.heap.size ≤ k_) ∧ k_ ≠ gb307 ∧ k_ ≠ gb308 ∧ k_ ≠ gb309)) k_ ∧ some k_ ≠ (u310001 : Value).ownBlock)) (HL310_1.out) (fun k_ hk => ⟨⟨hk.1, ⟨hk.2.2.1, ⟨hk.2.2.2.1, hk.2.2.2.2⟩⟩⟩, hk.2.1⟩)))))
    (case aB => exact zB)
    (case aF => exact (fun k_ hk => ⟨(.inr (Nat.le_trans (below_size zB) hk)), Kd.freshB (g := gb307) (o := .cells #[.string a0_0, .slice (some ad310) l0_1.length c0_1, .string a0_2] 49 (0, 0)) (blk_below BK307.out zX) k_ hk, Kd.freshB (g := gb308) (o := .cells #[.string (⟨#[]⟩ : ByteArray), .slice none 0 0, .string (⟨#[]⟩ : ByteArray)] 53 (0, 0)) (blk_below BK308.out zX) k_ hk, Kd.freshB (g := gb309) (o := .cells #[.string a0_0, u310001, .string a0_2] 53 (0, 0)) (blk_below BK309.out zX) k_ hk⟩))
    (case aO => exact (Kd.N_below HO_310001.out zX))
    (case aS => exact (below_size zB))
    (case aL => have := LMc14.out; omega)
    intro v312 w16 ho hb hg hat; rw [← Ny311.out] at ho; have n0_ := Aside0.mk (Kd.V_afterv (ok := (fun k_ => (P0_1_ k_ ∨ w.heap.size ≤ k_) ∧ k_ ≠ gb307 ∧ k_ ≠ gb308 ∧ k_ ≠ gb309)) (by (with_reducible repeat (first | apply Kd.V_alloc | apply Kd.V_drewN | apply Kd.V_drew)); exact Kd.V_mono HO_308001.out (fun _ hk => ⟨⟨hk.1, ⟨hk.2.2.1, ⟨hk.2.2.2.1, hk.2.2.2.2⟩⟩⟩, hk.2.1⟩)) hg hat); have n1_ := Aside0.mk (blk_grown (g := gb307) (o := .cells #[.string a0_0, .slice (some ad310) l0_1.length c0_1, .string a0_2] 49 (0, 0)) (blk_below BK307.out zX) hg (Kd.N_ne HO_310001.out BK307.out (by decide))); have n2_ := Aside0.mk (blk_grown (g := gb308) (o := .cells #[.string (⟨#[]⟩ : ByteArray), .slice none 0 0, .string (⟨#[]⟩ : ByteArray)] 53 (0, 0)) (blk_below BK308.out zX) hg (Kd.N_ne HO_310001.out BK308.out (by decide)))
    have n3_ := Aside0.mk (blk_grown (g := gb309) (o := .cells #[.string a0_0, u310001, .string a0_2] 53 (0, 0)) (blk_below BK309.out zX) hg (Kd.N_ne HO_310001.out BK309.out (by decide))); have n4_ := Aside0.mk (Kd.V_afterv (ok := (fun k_ => (P0_1_ k_ ∨ w.heap.size ≤ k_) ∧ k_ ≠ gb307 ∧ k_ ≠ gb308 ∧ k_ ≠ gb309)) (by (with_reducible repeat (first | apply Kd.V_alloc | apply Kd.V_drewN | apply Kd.V_drew)); exact Kd.V_mono HL310_1.out (fun _ hk => ⟨⟨hk.1, ⟨hk.2.2.1, ⟨hk.2.2.2.1, hk.2.2.2.2⟩⟩⟩, hk.2.1⟩)) hg hat); have n5_ := Aside0.mk (hb); have n6_ := Aside0.mk (ho); clear HO_308001; clear BK307; clear BK308; clear BK309; clear HL310_1; clear HB; clear HO_310001; have HO_308001 := n0_; have BK307 := n1_; have BK308 := n2_; have BK309 := n3_; have HL310_1 := n4_; have HB := n5_; have HO313 := n6_; clear n0_ n1_ n2_ n3_ n4_ n5_ n6_; clear ho hb hg hat
    obtain ⟨Ao17, co17, eo17⟩ := Kd.N_slice HO313.out
    (first | subst eo17 | (injection eo17 with f1_ f2_ f3_; have f4_ := f1_.symm; have f5_ := f3_.symm; clear f1_ f2_ f3_; subst f4_; subst f5_))
    refine hK.out _ _ ?_; clear hK K; refine zr ?_; refine zp 9 25 (bs 11 1023) ?_; refine last_ (i := 10) (N := none) (bs 11 2047) rfl rfl (one_of HT_.out (by kernel_rfl)) (by decide) (fun K hK => ?_); have hs18 : w16.cell? ⟨gb309, 1, none⟩ = some (u310001) := (blk_cell BK309.out 1).trans rfl; have hfs18 := zf BK309 1; have hns18_0 := NB307_309.out; have hns18_1 := NB308_309.out; have hms18_0 := NB309_307.out; have hms18_1 := NB309_308.out; refine skip_ (w1 := ?_) (by rfl) rfl ?_ ?_; rotate_left
    ·go_simp; rfl
    refine hK.out _ _ ?_; clear hK K; refine done_ (done_of HT_.out (by kernel_rfl)) ?_
    try go_wp2
    go_roundg k1
    case measure => have := HK1.out; omega
    case rel => exact ⟨(wrap64 (x13_1 + 1)), (y311), (.slice Ao17 y311.length co17), zS, H', ⟨by have := HK1.out; omega⟩, ⟨by (with_reducible repeat (first | apply Kd.V_alloc | apply Kd.V_drewN | apply Kd.V_drew)); exact Kd.V_mono (Kd.V_far (p := ⟨gb309, 1, none⟩) (Kd.V_mono HO_308001.out (fun k_ hk => (⟨hk, hk.1.2.2.2⟩ : _ ∧ k_ ≠ gb309))) (fun _ hk => hk.2) (.slice Ao17 y311.length co17)) (fun _ hk => ⟨hk.1.1.1, ⟨hk.1.2, ⟨hk.1.1.2.1, ⟨hk.1.1.2.2.1, hk.1.1.2.2.2⟩⟩⟩⟩)⟩, ⟨by (with_reducible repeat (first | apply Kd.N_alloc | apply Kd.N_drewN | apply Kd.N_drew)); exact Kd.N_mono (Kd.N_far (p := ⟨gb309, 1, none⟩) (Kd.N_mono HO313.out (fun k_ hk => (⟨hk, hk.2.2.2⟩ : _ ∧ k_ ≠ gb309))) (fun _ hk => hk.2) (.slice Ao17 y311.length co17)) (fun _ hk => ⟨hk.1.1, ⟨hk.1.2.1, ⟨hk.1.2.2.1, hk.1.2.2.2⟩⟩⟩)⟩, ⟨by (with_reducible repeat (first | refine blk_drewN ?_ _ | refine blk_drew ?_ | refine blk_alloc ?_ _)); refine blk_far ?_ NB307_309.out _; (with_reducible repeat (first | refine blk_drewN ?_ _ | refine blk_drew ?_ | refine blk_alloc ?_ _)); exact BK307.out⟩, ⟨by (with_reducible repeat (first | refine blk_drewN ?_ _ | refine blk_drew ?_ | refine blk_alloc ?_ _)); refine blk_far ?_ NB308_309.out _; (with_reducible repeat (first | refine blk_drewN ?_ _ | refine blk_drew ?_ | refine blk_alloc ?_ _)); exact BK308.out⟩, ⟨by (with_reducible repeat (first | refine blk_drewN ?_ _ | refine blk_drew ?_ | refine blk_alloc ?_ _)); refine blk_put (cs := #[.string a0_0, u310001, .string a0_2]) ?_ 1 _ rfl; (with_reducible repeat (first | refine blk_drewN ?_ _ | refine blk_drew ?_ | refine blk_alloc ?_ _)); exact BK309.out⟩, ⟨zB⟩⟩
   ·simp only [Option.some.injEq, Prod.mk.injEq] at H; obtain ⟨rfl, rfl, rfl⟩ := H; have hnb19 := NB309_307.out; have hnc19 := NB307_309.out; have hnb20 := NB309_308.out; have hnc20 := NB308_309.out; obtain ⟨hcz21_0, hcz21_1, hcz21_2, hfz21_0, hfz21_1, hfz21_2⟩ := zk3 BK309; have hnb22 := NB308_307.out; have hnc22 := NB307_308.out; have hcz23_0 := zc0 BK308; have hcz23_1 := zc1 BK308
    have hcz23_2 := zc2 BK308; have hfz23_0 := zf BK308 0; have hfz23_1 := zf BK308 1; have hfz23_2 := zf BK308 2; obtain ⟨Ao24, co24, eo24⟩ := Kd.N_slice HO_310001.out; subst eo24; go_wp2
    refine bodyPost_ret (results_cell_row rfl _ _ gb308 53 #[.string a0_0, .slice Ao24 x310001_1.length co24, .string a0_2] (0, 0) _ rfl (by (with_reducible repeat (first | refine blk_drewN ?_ _ | refine blk_drew ?_ | refine blk_alloc ?_ _)); refine blk_put (cs := #[.string a0_0, .slice Ao24 x310001_1.length co24, .string (⟨#[]⟩ : ByteArray)]) ?_ 2 _ rfl; (with_reducible repeat (first | refine blk_drewN ?_ _ | refine blk_drew ?_ | refine blk_alloc ?_ _)); refine blk_put (cs := #[.string a0_0, .slice none 0 0, .string (⟨#[]⟩ : ByteArray)]) ?_ 1 _ rfl; (with_reducible repeat (first | refine blk_drewN ?_ _ | refine blk_drew ?_ | refine blk_alloc ?_ _)); refine blk_put (cs := #[.string (⟨#[]⟩ : ByteArray), .slice none 0 0, .string (⟨#[]⟩ : ByteArray)]) ?_ 0 _ rfl; (with_reducible repeat (first | refine blk_drewN ?_ _ | refine blk_drew ?_ | refine blk_alloc ?_ _)); exact BK308.out) Tryz.underlying53 rfl (by kernel_rfl)) rfl ?_
    exact ⟨_, zE, by (with_reducible repeat (first | apply Kd.N_alloc | apply Kd.N_drewN | apply Kd.N_drew)); exact Kd.N_mono (Kd.N_far (p := ⟨gb308, 2, none⟩) (Kd.N_far (p := ⟨gb308, 1, none⟩) (Kd.N_far (p := ⟨gb308, 0, none⟩) (Kd.N_mono HO_310001.out (fun k_ hk => (⟨hk, hk.2.2.1⟩ : _ ∧ k_ ≠ gb308))) (fun _ hk => hk.2) (.string a0_0)) (fun _ hk => hk.2) (.slice Ao24 x310001_1.length co24)) (fun _ hk => hk.2) (.string a0_2)) (fun _ hk => hk.1.1), zB⟩
end Go.Proofs.YtdojmdbaiddkgaaGreatDoor.Print
end
