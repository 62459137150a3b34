/- Texts of the proof of LinePrints, put together: Bld Caret Print2 LEq LAt Great RName RValue Print3 LParse. -/
import Derived.Test.YtknmbalhbecdhaaGreatDoorProg
import Derived.Shelf.Unicode.ValidAny
import Derived.Shelf.Strings.Builder1
import Derived.Shelf.Small.Utf8
import Derived.Shelf.Small.Strs
import Derived.Shelf.Strings.BuilderF
import Derived.Shelf.Strings.BuilderK
import Derived.Shelf.Strings.Search1
import Derived.Shelf.Strings.Search2
import Derived.Shelf.Strings.Search3
import Derived.Shelf.Strings.Count
import Derived.Shelf.LaysM
import Derived.Shelf.Strings.Shaped
import Derived.Shelf.Strings.Runes
import Derived.Shelf.Strings.IndexAny
import Derived.Shelf.Strings.AsciiSet
import Derived.Shelf.Strings.IndexAnyAll
import Derived.Shelf.Slices.Equal
import Derived.Shelf.Slices.Empties2
import Derived.Laws.NewBlocks
import Derived.WalkKit
import Derived.Lib.Hide
import Derived.WalkSpells
import Derived.Laws.Runes
import Derived.Laws.RangeAny
import Derived.Laws.RangeString
import Derived.Lib.IndexAny
import Derived.Lib.SpaceUEq
import Derived.Lib.RuneCount
import Derived.Lib.QuoteLoop
import Derived.Lib.OthersKept
import Derived.Lib.DecodeN
import Derived.BigQuiet
import Derived.IntWalk
import Derived.Deep.QuietTactic
import Derived.Below
import Derived.Deep.Draws
import Derived.Deep.AppendLies
import Derived.Maps.AppendAt
import Derived.OwnWalk
import Derived.Laws.BytesArg
import Derived.Laws.MakeOwn
import Derived.Laws.OwnMore
import Derived.Deep.OwnRows
import Derived.Tactics
import Derived.Lib.ConvBytes
import Derived.Laws.Slices
import Derived.KernelRfl
import Derived.RowKit3
import Derived.Deep.LoopGhost
import Derived.WideLaws
import Derived.Deep.DeepCutAuto
import Derived.Deep.CutBlock
import Derived.Deep.RegionHeld3
import Derived.Laws.Rows
import Derived.Lib.AppendStr
import Derived.ArgAppend
import Derived.Laws.IdiomCopy
import Derived.OrdersHeld
import Derived.Laws.BitsLemmas
import Derived.RowKit
import Derived.Test.YtknmbalhbecdhaaGreatDoorWWords
import Derived.Test.YtknmbalhbecdhaaGreatDoorWLast
import Derived.Test.YtknmbalhbecdhaaGreatDoorWTab
import Derived.Test.YtknmbalhbecdhaaGreatDoorWApart
import Derived.Test.YtknmbalhbecdhaaGreatDoorWArr
import Derived.Test.YtknmbalhbecdhaaGreatDoorWFoot
import Derived.Test.YtknmbalhbecdhaaGreatDoorWKept
import Derived.Test.YtknmbalhbecdhaaGreatDoorWRepsOne
import Derived.Test.YtknmbalhbecdhaaGreatDoorWGuard
import Derived.Outline
import Derived.Laws.IdiomStrings
import Derived.Deep.RegionWith
import Derived.RegionCalls
import Derived.Lib.IndexLaws
import Derived.Test.YtknmbalhbecdhaaGreatDoorQLinePrintsA
section
set_option linter.unusedVariables false
set_option linter.unusedSimpArgs false
namespace Go.Proofs.YtknmbalhbecdhaaGreatDoor.Bld
open Go.RowKit
theorem blk_set {w : World} {g : Nat} {t : TypeId} {cs : Array Value} (h : w.heap[g]? = some (.cells cs t (0, 0))) (i : Nat) (u : Value) : (w.setCell ⟨g, i, none⟩ u).heap[g]? = some (.cells (cs.setIfInBounds i u) t (0, 0)) := by
  simp [World.setCell, Array.getElem?_modify, h]
theorem infoByte : (Tryz.prog.info? 5).map (fun i => (i.zero, i.size, i.bytes)) = some (some (.int .u8 0), 1, 1) := by kernel_rfl
theorem sizeBuilder : (Tryz.prog.info? 48).map (·.size) = some 2 := by kernel_rfl
theorem liesBuilder : liesAt Tryz.prog Tryz.prog.depth 48 (2 / Tryz.prog.cellsOf 48) 0 48 1 = true := by kernel_rfl
set_option maxHeartbeats 1000000 in
set_option maxRecDepth 100000 in
theorem copyCheck_used (b : Nat) (w : World) (h0 : w.cell? ⟨b, 0, none⟩ = some (.pointer (some ⟨b, 0, none⟩))) :
    Calls Tryz.prog 40 #[.pointer (some ⟨b, 0, none⟩)] w fun e w' => e = .returned (.tuple #[]) ∧ w' = w := by
  obtain ⟨j, hj, _⟩ := Option.map_eq_some_iff.1 sizeBuilder
  go_enter Tryz.func40, Tryz.ntmps40
  go_wp2
  rw [Lib.run_neq_ptr_same w _ Tryz.underlying45 hj]
  go_wp2
  go_end0
  exact ⟨rfl, rfl⟩
set_option maxHeartbeats 1000000 in
set_option maxRecDepth 100000 in
theorem copyCheck_fresh (b : Nat) (w : World) (h0 : w.cell? ⟨b, 0, none⟩ = some (.pointer none)) (hsh : w.shape? b = some (48, 2)) (hfz : w.frozen? ⟨b, 0, none⟩ = false) :
    Calls Tryz.prog 40 #[.pointer (some ⟨b, 0, none⟩)] w fun e w' => e = .returned (.tuple #[]) ∧ w' = w.setCell ⟨b, 0, none⟩ (.pointer (some ⟨b, 0, none⟩)) := by
  obtain ⟨j, hj, hjs⟩ := Option.map_eq_some_iff.1 sizeBuilder
  go_enter Tryz.func40, Tryz.ntmps40
  go_wp2
  rw [Lib.run_to_unsafe w ⟨b, 0, none⟩ Tryz.underlying45 Tryz.underlying83 hj (by rw [hjs]; decide) hsh (Nat.zero_lt_succ 1)]
  simp only [Result.andThen]
  rw [Oper.upon_value]
  go_wp2
  rw [run_callFunc_extern Tryz.func51 (by kernel_rfl) (by kernel_rfl) (by kernel_rfl) (e := Extern.AbiNoEscape.same) (by kernel_rfl)]
  rw [Lib.run_noEscape]
  simp only [Result.andThen]
  rw [Oper.upon_value]
  go_wp2
  rw [Lib.run_from_unsafe w ⟨b, 0, none⟩ Tryz.underlying83 Tryz.underlying45 hj hsh liesBuilder]
  simp only [Result.andThen]
  rw [Oper.upon_value]
  go_wp2
  go_end0
  exact ⟨rfl, rfl⟩
theorem copyCheck (B b : Nat) (bs : List Value) (w : World) (h : Lib.IsBuilderF 48 5 B b bs w) :
    Calls Tryz.prog 40 #[.pointer (some ⟨b, 0, none⟩)] w fun e w' => e = .returned (.tuple #[]) ∧ (Lib.BuilderAtF 48 5 B b (.pointer (some ⟨b, 0, none⟩)) bs w' ∧ Below B w w' ∧ Lib.OthersKept 5 (some b) w w') := by
  rcases h with h | h
  · refine (copyCheck_fresh b w h.cell0 h.shape h.frozen0).mono ?_
    rintro e w' ⟨rfl, rfl⟩
    exact ⟨rfl, h.used _, (Below.refl B w).setCell (p := ⟨b, 0, none⟩) h.1 _, (Lib.OthersKept.refl _ _ w).setCell ⟨b, 0, none⟩ rfl _⟩
  · refine (copyCheck_used b w h.cell0).mono ?_
    rintro e w' ⟨rfl, rfl⟩
    exact ⟨rfl, h, Below.refl B _, Lib.OthersKept.refl _ _ _⟩
set_option maxHeartbeats 2000000 in
set_option maxRecDepth 100000 in
theorem WriteByte (B b : Nat) (bs : List Value) (c : Int) (w : World) (h : Lib.IsBuilderF 48 5 B b bs w) (hlen : bs.length + 1 ≤ 140737488355328) (hBw : B ≤ w.heap.size) :
    Calls Tryz.prog 21 #[.pointer (some ⟨b, 0, none⟩), .int .u8 c] w fun e w' => e = .returned .nilIface ∧ (Lib.BuilderAtF 48 5 B b (.pointer (some ⟨b, 0, none⟩)) (bs ++ [.int .u8 c]) w' ∧ Below B w w' ∧ Lib.OthersKept 5 (some b) w w') := by
  obtain ⟨i0, hi, hz0, hz1, hz2⟩ := info_parts infoByte
  go_enter Tryz.func21, Tryz.ntmps21
  go_wp2_with (go_at_call 40; refine (copyCheck B b bs _ h).mono ?_)
  rintro e w1 ⟨rfl, h1, hb1, hk1⟩
  obtain ⟨hB, v, hbk, hown, hne⟩ := h1
  have c0 : w1.cell? ⟨b, 0, none⟩ = some (.pointer (some ⟨b, 0, none⟩)) := by rw [Lib.cell_of_heap hbk]; rfl
  have c1 : w1.cell? ⟨b, 1, none⟩ = some v := by rw [Lib.cell_of_heap hbk]; rfl
  go_wp2_with (at_builtin; refine wpList_append_ownF _ rfl _ _ 46 rfl B 5 i0 (.int .u8 0) 1 1 Tryz.underlying46 hi hz0 hz1 hz2 rfl (by decide) _ _ _ rfl (hown.alloc _) ⟨w1.heap.size, 0, none⟩ 1 1 [.int .u8 c] rfl rfl ?c1 ?c2 ?c3 ?c4 ?c5 ?_)
  case c1 =>
    intro j u hj
    match j, hj with
    | 0, hj => simp at hj; subst hj; simp [Addr.add]
  case c2 => intro u hu; simp at hu; subst hu; rfl
  case c3 => unfold maxLen; omega
  case c4 => omega
  case c5 => have := hb1.size; simp; omega
  intro v' w2 hown' hgrow _
  have hlt : b < w1.heap.size := by
    rcases Nat.lt_or_ge b w1.heap.size with h' | h'
    · exact h'
    · simp [Array.getElem?_eq_none h'] at hbk
  have hb2 : w2.heap[b]? = some (.cells #[.pointer (some ⟨b, 0, none⟩), v] 48 (0, 0)) := by
    rw [hgrow.block b (by simp; omega) (fun e => hne e.symm), Lib.alloc_old w1 _ b hlt]
    exact hbk
  have d0 : w2.cell? ⟨b, 0, none⟩ = some (.pointer (some ⟨b, 0, none⟩)) := by rw [Lib.cell_of_heap hb2]; rfl
  have d1 : w2.cell? ⟨b, 1, none⟩ = some v := by rw [Lib.cell_of_heap hb2]; rfl
  have f1 : w2.frozen? ⟨b, 1, none⟩ = false := Lib.frozen_of_heap hb2 1
  obtain ⟨g, cap, rfl⟩ : ∃ g cap, v' = .slice (some ⟨g, 0, none⟩) (bs.length + 1) cap := by
    rcases hown'.2 with ⟨_, h0⟩ | ⟨g, cap, cur, fz, hv, _⟩
    · omega
    · exact ⟨g, cap, hv⟩
  go_wp2
  go_ret
  refine ⟨rfl, ?_, ?_, ((hk1.alloc _).grown hgrow (Lib.ownsRowF_kind (hown.alloc _))).setCell ⟨b, 1, none⟩ rfl _⟩
  · exact Lib.BuilderAtF.put (T := 48) (e := 5) hB hb2 (bs' := bs ++ [.int .u8 c]) (by simpa using hown') (by decide)
  · exact ((hb1.alloc (by have := hb1.size; omega) _).grown hgrow (by have := hb1.size; simp; omega) (fun k hk => (hown.lt k hk).1)).setCell (p := ⟨b, 1, none⟩) hB _
set_option maxHeartbeats 2000000 in
set_option maxRecDepth 100000 in
theorem WriteString (B b : Nat) (bs : List Value) (s : ByteArray) (w : World) (h : Lib.IsBuilderF 48 5 B b bs w) (hlen : bs.length + s.size ≤ 140737488355328) (hBw : B ≤ w.heap.size) :
    Calls Tryz.prog 19 #[.pointer (some ⟨b, 0, none⟩), .string s] w fun e w' => e = .returned (.tuple #[.int .i64 s.size, .nilIface]) ∧ (Lib.BuilderAtF 48 5 B b (.pointer (some ⟨b, 0, none⟩)) (bs ++ Lib.strCells s) w' ∧ Below B w w' ∧ Lib.OthersKept 5 (some b) w w') := by
  obtain ⟨i0, hi, hz0, hz1, hz2⟩ := info_parts infoByte
  go_enter Tryz.func19, Tryz.ntmps19
  go_wp2_with (go_at_call 40; refine (copyCheck B b bs _ h).mono ?_)
  rintro e w1 ⟨rfl, h1, hb1, hk1⟩
  obtain ⟨hB, v, hbk, hown, hne⟩ := h1
  have c0 : w1.cell? ⟨b, 0, none⟩ = some (.pointer (some ⟨b, 0, none⟩)) := by rw [Lib.cell_of_heap hbk]; rfl
  have c1 : w1.cell? ⟨b, 1, none⟩ = some v := by rw [Lib.cell_of_heap hbk]; rfl
  go_wp2_with (at_builtin; refine Lib.wpList_append_own_stringF _ rfl _ _ 46 9 rfl B 5 i0 Tryz.underlying46 Tryz.underlying9 hi hz0 hz1 hz2 _ _ _ rfl hown s rfl ?c3 ?c4 ?c5 ?_)
  case c3 => unfold maxLen; omega
  case c4 => omega
  case c5 => have := hb1.size; omega
  intro v' w2 hown' hgrow _
  have hlt : b < w1.heap.size := by
    rcases Nat.lt_or_ge b w1.heap.size with h' | h'
    · exact h'
    · simp [Array.getElem?_eq_none h'] at hbk
  have hb2 : w2.heap[b]? = some (.cells #[.pointer (some ⟨b, 0, none⟩), v] 48 (0, 0)) := by
    rw [hgrow.block b hlt (fun e => hne e.symm)]
    exact hbk
  have d0 : w2.cell? ⟨b, 0, none⟩ = some (.pointer (some ⟨b, 0, none⟩)) := by rw [Lib.cell_of_heap hb2]; rfl
  have d1 : w2.cell? ⟨b, 1, none⟩ = some v := by rw [Lib.cell_of_heap hb2]; rfl
  have f1 : w2.frozen? ⟨b, 1, none⟩ = false := Lib.frozen_of_heap hb2 1
  obtain ⟨ao, n', cap, rfl⟩ : ∃ ao n' cap, v' = .slice ao n' cap := by
    rcases hown'.2 with ⟨hv, _⟩ | ⟨g, cap, cur, fz, hv, _⟩
    · exact ⟨_, _, _, hv⟩
    · exact ⟨_, _, _, hv⟩
  go_wp2
  go_ret2
  refine ⟨rfl, ?_, ?_, (hk1.grown hgrow (Lib.ownsRowF_kind hown)).setCell ⟨b, 1, none⟩ rfl _⟩
  · exact Lib.BuilderAtF.put (T := 48) (e := 5) hB hb2 (bs' := bs ++ Lib.strCells s) (by simpa [Lib.strCells_length] using hown') (by decide)
  · exact (hb1.grown hgrow (by have := hb1.size; omega) (fun k hk => (hown.lt k hk).1)).setCell (p := ⟨b, 1, none⟩) hB _
/-- A builder at block b, made at or above block B, holds the bytes l. -/
structure Has (B b : Nat) (l : List UInt8) (w : World) : Prop where
  out : Lib.IsBuilderF 48 5 B b (Lib.byteCells l) w
theorem grownB {w w' : World} (hb : Below w.heap.size w w') : w.grownBy w' none := ⟨hb.os, hb.tape, hb.output, hb.size, fun i hi _ => hb.block i hi⟩
theorem Has.new (B : Nat) (w : World) (h : B ≤ w.heap.size) : Has B w.heap.size [] (w.alloc (.cells #[.pointer none, .slice none 0 0] 48)) :=
  ⟨.inl ⟨h, _, by simpa using heap_alloc_new w _, ⟨by simp [Lib.byteCells], .inl ⟨rfl, rfl⟩⟩, by simp [Value.ownBlock]⟩⟩
theorem Has.drewN {B b : Nat} {l : List UInt8} {w : World} (h : Has B b l w) (n : Nat) : Has B b l (w.drewN n) := ⟨h.out⟩
theorem Has.lt {B b : Nat} {l : List UInt8} {w : World} (h : Has B b l w) : b < w.heap.size := by
  rcases h.out with ⟨_, v, hb, _⟩ | ⟨_, v, hb, _⟩
  · exact (Array.getElem?_eq_some_iff.1 hb).1
  · exact (Array.getElem?_eq_some_iff.1 hb).1
theorem Has.below {B b : Nat} {l : List UInt8} {w w' : World} (h : Has B b l w) (hb : Below w.heap.size w w') : Has B b l w' := by
  rcases h.out with ⟨h1, v, h2, h3, h4⟩ | ⟨h1, v, h2, h3, h4⟩
  · exact ⟨.inl ⟨h1, v, (hb.block _ (Array.getElem?_eq_some_iff.1 h2).1).trans h2, h3.kept (grownB hb) (by cases v.ownBlock <;> simp), h4⟩⟩
  · exact ⟨.inr ⟨h1, v, (hb.block _ (Array.getElem?_eq_some_iff.1 h2).1).trans h2, h3.kept (grownB hb) (by cases v.ownBlock <;> simp), h4⟩⟩
theorem wb (B b : Nat) (l : List UInt8) (c : Int) (x : UInt8) (hx : (x.toNat : Int) = c) (w : World) (h : Has B b l w) (hlen : l.length + 1 ≤ 140737488355328) (hBw : B ≤ w.heap.size) :
    Calls Tryz.prog 21 #[.pointer (some ⟨b, 0, none⟩), .int .u8 c] w fun e w' => e = .returned .nilIface ∧ Has B b (l ++ [x]) w' ∧ Below B w w' ∧ Lib.OthersKept 5 (some b) w w' := by
  subst hx
  refine (WriteByte B b (Lib.byteCells l) x.toNat w h.out (by rw [Lib.byteCells_length]; exact hlen) hBw).mono ?_
  rintro e w' ⟨he, h1, h2, h3⟩
  exact ⟨he, ⟨.inr (by simpa [Lib.byteCells] using h1)⟩, h2, h3⟩
theorem ws (B b : Nat) (l : List UInt8) (s : ByteArray) (w : World) (h : Has B b l w) (hlen : l.length + s.size ≤ 140737488355328) (hBw : B ≤ w.heap.size) :
    Calls Tryz.prog 19 #[.pointer (some ⟨b, 0, none⟩), .string s] w fun e w' => e = .returned (.tuple #[.int .i64 s.size, .nilIface]) ∧ Has B b (l ++ s.data.toList) w' ∧ Below B w w' ∧ Lib.OthersKept 5 (some b) w w' := by
  refine (WriteString B b (Lib.byteCells l) s w h.out (by rw [Lib.byteCells_length]; exact hlen) hBw).mono ?_
  rintro e w' ⟨he, h1, h2, h3⟩
  exact ⟨he, ⟨.inr (by simpa [Lib.byteCells, Lib.strCells] using h1)⟩, h2, h3⟩
theorem str (B b : Nat) (l : List UInt8) (w : World) (h : Has B b l w) (hBw : B ≤ w.heap.size) :
    Calls Tryz.prog 23 #[.pointer (some ⟨b, 0, none⟩)] w fun e w' => e = .returned (.string ⟨l.toArray⟩) ∧ Has B b l w' ∧ Below B w w' ∧ Lib.OthersKept 5 (some b) w w' := by
  refine (Tryz.Builder_String_any_k B b l w h.out hBw).mono ?_
  rintro e w' ⟨he, h1, h2, h3⟩
  exact ⟨he, ⟨h1⟩, h2, h3⟩
theorem len (B b : Nat) (l : List UInt8) (w : World) (h : Has B b l w) :
    Calls Tryz.prog 22 #[.pointer (some ⟨b, 0, none⟩)] w fun e w' => e = .returned (.int .i64 l.length) ∧ w' = w := by
  have := Tryz.Builder_Len_f B b (Lib.byteCells l) w h.out
  rw [Lib.byteCells_length] at this
  exact this
end Go.Proofs.YtknmbalhbecdhaaGreatDoor.Bld
end
section
set_option linter.unusedVariables false
set_option linter.unusedSimpArgs false
namespace Go.Proofs.YtknmbalhbecdhaaGreatDoor.Print
open Go.RowKit Go.Proofs.YtknmbalhbecdhaaGreatDoorW.PrintWords Go.Proofs.YtknmbalhbecdhaaGreatDoorW.PrintLast
/-- What is read. -/
def carL : List UInt8 → List UInt8
  | [] => []
  | [x] => [x]
  | x :: y :: t => if x = 94 then (if y = 110 then 10 :: carL t else if y = 39 then 34 :: carL t else if y = 94 then 94 :: carL t else 94 :: carL (y :: t)) else x :: carL (y :: t)
theorem drop_one (s : ByteArray) (k : Nat) (h : k < s.size) : s.data.toList.drop k = s[k] :: s.data.toList.drop (k + 1) := by
  rw [List.drop_eq_getElem_cons (by simpa using h)]; rfl
theorem u8_ne (x : UInt8) (n : Nat) (hn : n < 256) (h : x ≠ n.toUInt8) : ((x.toNat : Int) == (n : Int)) = false :=
  beq_eq_false_iff_ne.2 (fun e => h (by apply UInt8.toNat_inj.1; have : x.toNat = n := by omega
                                        rw [this]; simp; omega))
def escape_caret.f (a0 : ByteArray) : Option ByteArray := if a0.size ≤ 140737488355328 then some ⟨(carL a0.data.toList).toArray⟩ else none
set_option maxHeartbeats 1600000 in
set_option maxRecDepth 100000 in
theorem escape_caret.calls (a0 : ByteArray) (r : ByteArray) (w : World) (hG : GG w) (h : escape_caret.f a0 = some r) :
    Calls Tryz.prog 67 #[.string a0] w fun e w' => e = .returned (.string r) ∧ Below w.heap.size w w' := by
  by_cases hs : a0.size ≤ 140737488355328
  case neg => simp only [escape_caret.f] at h; rw [if_neg hs] at h; cases h
  simp only [escape_caret.f] at h
  rw [if_pos hs] at h
  obtain rfl := Option.some.inj h
  clear h
  go_enter Tryz.func67, Tryz.ntmps67
  go_wp2
  go_loopg [4] a0.size (fun g v4 wr => ∃ (i : Nat) (L : List UInt8), i ≤ a0.size ∧ Aside0 (a0.size ≤ i + g) ∧ v4 = .int .i64 i ∧ L.length ≤ i ∧ Aside0 (L ++ carL (a0.data.toList.drop i) = carL a0.data.toList) ∧ Aside0 (Bld.Has w.heap.size w.heap.size L wr) ∧ Aside0 (Below w.heap.size w wr))
  case atStart => exact ⟨0, [], by omega, ⟨by omega⟩, rfl, by simp, ⟨by simp⟩, ⟨Bld.Has.new _ _ (Nat.le_refl _)⟩, ⟨(Below.refl _ _).alloc (Nat.le_refl _) _⟩⟩
  case round =>
    obtain ⟨i, L, hi, HG, rfl, hL, HE, HH, HB⟩ := hrel
    have hsz := HB.out.size
    by_cases hlt : i < a0.size
    case neg =>
      obtain rfl : i = a0.size := by omega
      have hd : decide (a0.size < a0.size) = false := by simp
      go_wp2_with (go_at_call 23; refine (Bld.str _ _ _ _ HH.out hsz).mono ?_; rintro e w3 ⟨rfl, h1, h2, h3⟩)
      go_ret
      exact ⟨by have := HE.out; rw [List.drop_of_length_le (by simp)] at this; simp only [carL, List.append_nil] at this; rw [this]; rfl, HB.out.trans h2⟩
    cases gk with
    | zero => have := HG.out; omega
    | succ g =>
      have hd : decide (i < a0.size) = true := by simp; omega
      have hdr := drop_one a0 i hlt
      obtain ⟨x, hx⟩ : ∃ x : UInt8, a0[i] = x := ⟨_, rfl⟩
      rw [hx] at hdr
      have hb0 := x.toNat_lt
      have HD := Aside0.mk hdr
      clear hdr
      by_cases hx94 : x = 94
      case neg =>
        have e1 : ((x.toNat : Int) == 94) = false := u8_ne x 94 (by omega) hx94
        have HN : Aside0 (carL (a0.data.toList.drop i) = x :: carL (a0.data.toList.drop (i + 1))) := ⟨by
          rw [HD.out]
          cases a0.data.toList.drop (i + 1) with
          | nil => rfl
          | cons y t => simp only [carL]; rw [if_neg hx94]⟩
        clear hx94
        go_wp2_with fail
        refine (Bld.wb _ _ _ _ x rfl _ HH.out (by omega) hsz).mono ?_
        rintro e w4 ⟨rfl, k1, k2, k3⟩
        go_wp2
        go_roundg g
        case measure => have := HG.out; omega
        case rel => exact ⟨i + 1, L ++ [x], by omega, ⟨by have := HG.out; omega⟩, by go_num, by simp; omega, ⟨by have := HE.out; rw [HN.out] at this; simpa using this⟩, ⟨k1⟩, ⟨HB.out.trans k2⟩⟩
      subst hx94
      by_cases hl2 : i + 1 < a0.size
      case neg =>
        have hd2 : decide (i + 1 < a0.size) = false := by simp; omega
        have hd3 : decide ((i : Int) + 1 < (a0.size : Int)) = false := by simp; omega
        have e1 : (((94 : UInt8).toNat : Int) == 94) = true := rfl
        have HN : Aside0 (carL (a0.data.toList.drop i) = [94]) := ⟨by rw [HD.out, List.drop_of_length_le (by simp; omega)]; rfl⟩
        go_wp2_with fail
        refine (Bld.wb _ _ _ _ 94 rfl _ HH.out (by omega) hsz).mono ?_
        rintro e w4 ⟨rfl, k1, k2, k3⟩
        go_wp2
        go_roundg g
        case measure => have := HG.out; omega
        case rel => exact ⟨i + 1, L ++ [94], by omega, ⟨by have := HG.out; omega⟩, by go_num, by simp; omega, ⟨by have := HE.out; rw [HN.out] at this; rw [List.drop_of_length_le (by simp; omega)]; simpa [carL] using this⟩, ⟨k1⟩, ⟨HB.out.trans k2⟩⟩
      have hd2 : decide (i + 1 < a0.size) = true := by simp; omega
      have hd3 : decide ((i : Int) + 1 < (a0.size : Int)) = true := by simp; omega
      have e1 : (((94 : UInt8).toNat : Int) == 94) = true := rfl
      have hdr := drop_one a0 (i + 1) hl2
      obtain ⟨y, hy⟩ : ∃ y : UInt8, a0[i + 1] = y := ⟨_, rfl⟩
      rw [hy] at hdr
      have hb1 := y.toNat_lt
      have HD2 := Aside0.mk hdr
      clear hdr
      have hn : ((i : Int) + 1).toNat = i + 1 := by omega
      have h01 : (0 : Int) ≤ (i : Int) + 1 := by omega
      have hm1 : IntKind.i64.wrap ((i : Int) + 1 - 1) = (i : Int) := by unfold IntKind.wrap; simp [IntKind.bits, IntKind.signed]; omega
      by_cases hy110 : y = 110
      case pos =>
        have e2 : ((y.toNat : Int) == 110) = true := by subst hy110; rfl
        have HN : Aside0 (carL (a0.data.toList.drop i) = 10 :: carL (a0.data.toList.drop (i + 2))) := ⟨by rw [HD.out, HD2.out, hy110]; simp [carL]⟩
        clear hy110
        go_wp2_with fail
        refine (Bld.wb _ _ _ _ 10 rfl _ HH.out (by omega) hsz).mono ?_
        rintro e w4 ⟨rfl, k1, k2, k3⟩
        go_wp2
        go_roundg g
        case measure => have := HG.out; omega
        case rel => exact ⟨i + 2, L ++ [10], by omega, ⟨by have := HG.out; omega⟩, by go_num, by simp; omega, ⟨by have := HE.out; rw [HN.out] at this; simpa using this⟩, ⟨k1⟩, ⟨HB.out.trans k2⟩⟩
      have f2 : ((y.toNat : Int) == 110) = false := u8_ne y 110 (by omega) hy110
      by_cases hy39 : y = 39
      case pos =>
        have e2 : ((y.toNat : Int) == 39) = true := by subst hy39; rfl
        have HN : Aside0 (carL (a0.data.toList.drop i) = 34 :: carL (a0.data.toList.drop (i + 2))) := ⟨by rw [HD.out, HD2.out, hy39]; simp [carL]⟩
        clear hy110 hy39
        go_wp2_with fail
        refine (Bld.wb _ _ _ _ 34 rfl _ HH.out (by omega) hsz).mono ?_
        rintro e w4 ⟨rfl, k1, k2, k3⟩
        go_wp2
        go_roundg g
        case measure => have := HG.out; omega
        case rel => exact ⟨i + 2, L ++ [34], by omega, ⟨by have := HG.out; omega⟩, by go_num, by simp; omega, ⟨by have := HE.out; rw [HN.out] at this; simpa using this⟩, ⟨k1⟩, ⟨HB.out.trans k2⟩⟩
      have f3 : ((y.toNat : Int) == 39) = false := u8_ne y 39 (by omega) hy39
      by_cases hy94 : y = 94
      case pos =>
        have e2 : ((y.toNat : Int) == 94) = true := by subst hy94; rfl
        have HN : Aside0 (carL (a0.data.toList.drop i) = 94 :: carL (a0.data.toList.drop (i + 2))) := ⟨by rw [HD.out, HD2.out, hy94]; simp [carL]⟩
        clear hy110 hy39 hy94
        go_wp2_with fail
        refine (Bld.wb _ _ _ _ 94 rfl _ HH.out (by omega) hsz).mono ?_
        rintro e w4 ⟨rfl, k1, k2, k3⟩
        go_wp2
        go_roundg g
        case measure => have := HG.out; omega
        case rel => exact ⟨i + 2, L ++ [94], by omega, ⟨by have := HG.out; omega⟩, by go_num, by simp; omega, ⟨by have := HE.out; rw [HN.out] at this; simpa using this⟩, ⟨k1⟩, ⟨HB.out.trans k2⟩⟩
      have f4 : ((y.toNat : Int) == 94) = false := u8_ne y 94 (by omega) hy94
      have HN : Aside0 (carL (a0.data.toList.drop i) = 94 :: carL (a0.data.toList.drop (i + 1))) := ⟨by rw [HD.out, HD2.out]; simp [carL, hy110, hy39, hy94]⟩
      clear hy110 hy39 hy94
      go_wp2_with fail
      refine (Bld.wb _ _ _ _ 94 rfl _ HH.out (by omega) hsz).mono ?_
      rintro e w4 ⟨rfl, k1, k2, k3⟩
      go_wp2
      go_roundg g
      case measure => have := HG.out; omega
      case rel => exact ⟨i + 1, L ++ [94], by omega, ⟨by have := HG.out; omega⟩, by go_num, by simp; omega, ⟨by have := HE.out; rw [HN.out] at this; simpa using this⟩, ⟨k1⟩, ⟨HB.out.trans k2⟩⟩
end Go.Proofs.YtknmbalhbecdhaaGreatDoor.Print
end
section
namespace Go.Proofs.YtknmbalhbecdhaaGreatDoor.Print
open Go.RowKit Go.Proofs.YtknmbalhbecdhaaGreatDoorW.PrintWords Go.Proofs.YtknmbalhbecdhaaGreatDoorW.PrintLast
set_option linter.unusedVariables false
set_option linter.unusedSimpArgs false
def line_reader_peek.f (s0_0 : ByteArray) (s0_1 : Int) (s0_2 : Int) : Option (Int × ByteArray × Int × Int) := if s0_2 = 0 then (if s0_1 ≥ (s0_0.size : Int) then (some (0, s0_0, s0_1, s0_2)) else (if 0 ≤ s0_1 then (if s0_1 < (s0_0.size : Int) then (some (bt s0_0 s0_1, s0_0, s0_1, s0_2)) else (none)) else (none))) else (some (0, s0_0, s0_1, s0_2))
set_option maxHeartbeats 8000000 in
set_option maxRecDepth 100000 in
theorem line_reader_peek.calls (g : Nat) (s0_0 : ByteArray) (s0_1 : Int) (s0_2 : Int) (r1 : Int) (r2 : ByteArray) (r3 : Int) (r4 : Int) (w0 w : World) (hG : GG w0) (hI : IsS63 w0 w g s0_0 s0_1 s0_2) (hB : Below w0.heap.size w0 w) (h : line_reader_peek.f s0_0 s0_1 s0_2 = some (r1, r2, r3, r4)) :
  Calls Tryz.prog 33 #[.pointer (some ⟨g, 0, none⟩)] w fun e w' => e = .returned (.int .u8 r1) ∧ IsS63 w0 w' g r2 r3 r4 ∧ Below w0.heap.size w0 w' ∧ KeepBut w w' g none := by
 have HI0 := Aside0.mk hI
 have HK := Aside0.mk (KeepBut.refl w g none)
 have HL := Aside0.mk hB.size
 clear hI
 have HW0 := Aside0.mk hB.size
 have HB := Aside0.mk hB
 clear hB
 have H : (if s0_2 = 0 then (if s0_1 ≥ (s0_0.size : Int) then (some (0, s0_0, s0_1, s0_2)) else (if 0 ≤ s0_1 then (if s0_1 < (s0_0.size : Int) then (some (bt s0_0 s0_1, s0_0, s0_1, s0_2)) else (none)) else (none))) else (some (0, s0_0, s0_1, s0_2))) = some (r1, r2, r3, r4) := h
 clear h
 by_cases c2 : s0_2 = 0
 ·rw [if_pos c2] at H
  have c2b0 : (s0_2 == 0) = true := beq_iff_eq.mpr c2
  have c2b1 : (s0_2 != 0) = false := bne_eq_false_iff_eq.mpr c2
  clear c2
  by_cases c3 : s0_1 ≥ (s0_0.size : Int)
  ·rw [if_pos c3] at H
   have c3b0 : decide ((s0_0.size : Int) ≤ s0_1) = true := decide_eq_true c3
   clear c3
   simp only [Option.some.injEq, Prod.mk.injEq] at H
   obtain ⟨rfl, rfl, rfl, rfl⟩ := H
   obtain ⟨HGz4, hgz4⟩ := HI0.out
   have hcz4_0 := cellS63_0 HGz4
   have hcz4_1 := cellS63_1 HGz4
   have hcz4_2 := cellS63_2 HGz4
   have hfz4_0 := blk_frozen HGz4 0
   have hfz4_1 := blk_frozen HGz4 1
   have hfz4_2 := blk_frozen HGz4 2
   clear HGz4 hgz4
   go_enter Tryz.func33, Tryz.ntmps33
   go_wp2
   repeat (go_quiet (fail); try go_wp2)
   go_ret
   exact ⟨by first | rfl | (simp [errW_none, errW_some] <;> rfl) | (simp [*, errW_none, errW_some] <;> rfl), by repeat (first | (with_reducible first | exact HI0.out | apply IsS63.alloc | apply IsS63.drewN | apply IsS63.drew | apply IsS63.set_0 | apply IsS63.set_1 | apply IsS63.set_2) | exact HI0.out), by repeat (first | (with_reducible first | exact HB.out | apply below_alloc | apply pw_below_drewN | apply below_drew1 | refine below_set ?_ (IsS63.ge HI0.out)) | exact HB.out), by repeat (first | (with_reducible first | exact HK.out | apply KeepBut.set_ | apply keep_drewN | apply keep_drew | apply keep_alloc) | exact HK.out)⟩
  ·rw [if_neg c3] at H
   have c3b0 : decide ((s0_0.size : Int) ≤ s0_1) = false := decide_eq_false c3
   clear c3
   by_cases c5 : 0 ≤ s0_1
   ·rw [if_pos c5] at H
    have c5b0 : decide (0 ≤ s0_1) = true := decide_eq_true c5
    clear c5
    by_cases c6 : s0_1 < (s0_0.size : Int)
    ·rw [if_pos c6] at H
     have c6b0 : decide (s0_1 < (s0_0.size : Int)) = true := decide_eq_true c6
     clear c6
     simp only [Option.some.injEq, Prod.mk.injEq] at H
     obtain ⟨rfl, rfl, rfl, rfl⟩ := H
     obtain ⟨HGz8, hgz8⟩ := HI0.out
     have hcz8_0 := cellS63_0 HGz8
     have hcz8_1 := cellS63_1 HGz8
     have hcz8_2 := cellS63_2 HGz8
     have hfz8_0 := blk_frozen HGz8 0
     have hfz8_1 := blk_frozen HGz8 1
     have hfz8_2 := blk_frozen HGz8 2
     clear HGz8 hgz8
     have p7 : 0 ≤ (s0_1 : Int) := of_decide_eq_true (by first | (with_reducible assumption) | assumption)
     have q7 : s0_1 < (s0_0.size : Int) := of_decide_eq_true (by first | (with_reducible assumption) | assumption)
     have hx7 := bt_at s0_0 s0_1
     replace p7 := eq_true p7
     replace q7 := eq_true q7
     go_enter Tryz.func33, Tryz.ntmps33
     go_wp2
     repeat (go_quiet (fail); try go_wp2)
     go_ret
     exact ⟨by first | rfl | (simp [errW_none, errW_some] <;> rfl) | (simp [*, errW_none, errW_some] <;> rfl), by repeat (first | (with_reducible first | exact HI0.out | apply IsS63.alloc | apply IsS63.drewN | apply IsS63.drew | apply IsS63.set_0 | apply IsS63.set_1 | apply IsS63.set_2) | exact HI0.out), by repeat (first | (with_reducible first | exact HB.out | apply below_alloc | apply pw_below_drewN | apply below_drew1 | refine below_set ?_ (IsS63.ge HI0.out)) | exact HB.out), by repeat (first | (with_reducible first | exact HK.out | apply KeepBut.set_ | apply keep_drewN | apply keep_drew | apply keep_alloc) | exact HK.out)⟩
    ·rw [if_neg c6] at H
     exact absurd H (by simp)
   ·rw [if_neg c5] at H
    exact absurd H (by simp)
 ·rw [if_neg c2] at H
  have c2b0 : (s0_2 == 0) = false := beq_eq_false_iff_ne.mpr c2
  have c2b1 : (s0_2 != 0) = true := bne_iff_ne.mpr c2
  simp only [Option.some.injEq, Prod.mk.injEq] at H
  obtain ⟨rfl, rfl, rfl, rfl⟩ := H
  obtain ⟨HGz9, hgz9⟩ := HI0.out
  have hcz9_0 := cellS63_0 HGz9
  have hcz9_1 := cellS63_1 HGz9
  have hcz9_2 := cellS63_2 HGz9
  have hfz9_0 := blk_frozen HGz9 0
  have hfz9_1 := blk_frozen HGz9 1
  have hfz9_2 := blk_frozen HGz9 2
  clear HGz9 hgz9
  go_enter Tryz.func33, Tryz.ntmps33
  go_wp2
  repeat (go_quiet (fail); try go_wp2)
  go_ret
  exact ⟨by first | rfl | (simp [errW_none, errW_some] <;> rfl) | (simp [*, errW_none, errW_some] <;> rfl), by repeat (first | (with_reducible first | exact HI0.out | apply IsS63.alloc | apply IsS63.drewN | apply IsS63.drew | apply IsS63.set_0 | apply IsS63.set_1 | apply IsS63.set_2) | exact HI0.out), by repeat (first | (with_reducible first | exact HB.out | apply below_alloc | apply pw_below_drewN | apply below_drew1 | refine below_set ?_ (IsS63.ge HI0.out)) | exact HB.out), by repeat (first | (with_reducible first | exact HK.out | apply KeepBut.set_ | apply keep_drewN | apply keep_drew | apply keep_alloc) | exact HK.out)⟩
def stringslite_HasPrefix.f (a0 : ByteArray) (a1 : ByteArray) : Option (Bool) := if (a0.size : Int) ≥ (a1.size : Int) then (if 0 ≤ (a1.size : Int) then (if (a1.size : Int) ≤ (a0.size : Int) then (some ((a0.extract 0 ((a1.size : Int) : Int).toNat).toList == a1.toList)) else (none)) else (none)) else (some false)
set_option maxHeartbeats 8000000 in
set_option maxRecDepth 100000 in
theorem stringslite_HasPrefix.calls (a0 : ByteArray) (a1 : ByteArray) (r : Bool) (w : World) (hG : GG w) (h : stringslite_HasPrefix.f a0 a1 = some r) :
  Calls Tryz.prog 78 #[.string a0, .string a1] w fun e w' => e = .returned (.bool r) ∧ Drawn0 w w' := by
 have H : (if (a0.size : Int) ≥ (a1.size : Int) then (if 0 ≤ (a1.size : Int) then (if (a1.size : Int) ≤ (a0.size : Int) then (some ((a0.extract 0 ((a1.size : Int) : Int).toNat).toList == a1.toList)) else (none)) else (none)) else (some false)) = some r := h
 clear h
 by_cases c3 : (a0.size : Int) ≥ (a1.size : Int)
 ·rw [if_pos c3] at H
  have c3b0 : decide ((a1.size : Int) ≤ (a0.size : Int)) = true := decide_eq_true c3
  have c3b1 : decide (a1.size ≤ a0.size) = true := decide_eq_true (Int.ofNat_le.mp c3)
  clear c3
  by_cases c4 : 0 ≤ (a1.size : Int)
  ·rw [if_pos c4] at H
   have c4b0 := eq_true c4
   have c4b1 : decide (0 ≤ (a1.size : Int)) = true := decide_eq_true c4
   clear c4
   by_cases c5 : (a1.size : Int) ≤ (a0.size : Int)
   ·rw [if_pos c5] at H
    have c5b0 := eq_true c5
    have c5b1 : decide ((a1.size : Int) ≤ (a0.size : Int)) = true := decide_eq_true c5
    clear c5
    obtain rfl := Option.some.inj H
    go_enter Tryz.func78, Tryz.ntmps78
    go_wp2
    go_ret
    exact ⟨by first | rfl | (simp; done) | (simp [bne_nil_isEmpty, beq_nil_isEmpty]; done) | (simp [*]; done), by repeat (first | exact Drawn0.refl _ | apply Drawn0.step)⟩
   ·rw [if_neg c5] at H
    exact absurd H (by simp)
  ·rw [if_neg c4] at H
   exact absurd H (by simp)
 ·rw [if_neg c3] at H
  have c3b0 : decide ((a1.size : Int) ≤ (a0.size : Int)) = false := decide_eq_false c3
  have c3b1 : decide (a1.size ≤ a0.size) = false := decide_eq_false (fun h => c3 (Int.ofNat_le.mpr h))
  clear c3
  obtain rfl := Option.some.inj H
  go_enter Tryz.func78, Tryz.ntmps78
  go_wp2
  go_ret
  exact ⟨by first | rfl | (simp; done) | (simp [bne_nil_isEmpty, beq_nil_isEmpty]; done) | (simp [*]; done), by repeat (first | exact Drawn0.refl _ | apply Drawn0.step)⟩
def strings_HasPrefix.f (a0 : ByteArray) (a1 : ByteArray) : Option (Bool) := (stringslite_HasPrefix.f a0 a1).bind fun t103 => (some t103)
set_option maxHeartbeats 8000000 in
set_option maxRecDepth 100000 in
theorem strings_HasPrefix.calls (a0 : ByteArray) (a1 : ByteArray) (r : Bool) (w : World) (hG : GG w) (h : strings_HasPrefix.f a0 a1 = some r) :
  Calls Tryz.prog 66 #[.string a0, .string a1] w fun e w' => e = .returned (.bool r) ∧ Drawn0 w w' := by
 have H : ((stringslite_HasPrefix.f a0 a1).bind fun t103 => (some t103)) = some r := h
 clear h
 replace H := Option.bind_eq_some_iff.mp H
 obtain ⟨t103, A30, H⟩ := H
 replace H : (some t103) = some r := H
 have A3 := Aside0.mk A30
 clear A30
 obtain rfl := Option.some.inj H
 go_enter Tryz.func66, Tryz.ntmps66
 go_wp2_with (first | ((with_reducible refine gate_callee (f := 78) rfl ?_); refine goesL_ (some 7) rfl rfl Tryz.func78 (by kernel_rfl) rfl #[.string a0, .string a1] rfl (by (try simp only [List.map_toArray, List.map_cons, List.map_nil]); first | done | rfl | (simp only [List.length_drop, List.length_take]; rfl)) ?_; (with_reducible refine (stringslite_HasPrefix.calls a0 a1 t103 _ (by repeat (first | (with_reducible exact hG) | apply GG.drewN | apply GG.drew)) A3.out).mono ?_); rintro e w' ⟨rfl, ⟨nd, rfl⟩⟩; refine ⟨_, rfl, ?_⟩))
 go_ret
 exact ⟨by first | rfl | (simp; done) | (simp [bne_nil_isEmpty, beq_nil_isEmpty]; done) | (simp [*]; done), by repeat (first | exact Drawn0.refl _ | apply Drawn0.step)⟩
def escape_Value.f (k : Nat) (a0 : ByteArray) : Option (ByteArray × Int) := (escape_Clean.f k a0 false).bind fun t104 => (if t104 = 0 then ((strings_HasPrefix.f a0 (⟨#[34]⟩ : ByteArray)).bind fun t105 => (if t105 = true then (if (a0.size : Int) < 2 then (some ((⟨#[]⟩ : ByteArray), 7)) else (if 1 ≤ (a0.size : Int) then ((strings_IndexByte.f (a0.extract 1 a0.size) 34).bind fun t108 => (if t108 = (wrap64 ((a0.size : Int) - 2)) then (if 1 ≤ (wrap64 ((a0.size : Int) - 1)) then (if (wrap64 ((a0.size : Int) - 1)) ≤ (a0.size : Int) then ((escape_caret.f (a0.extract 1 ((wrap64 ((a0.size : Int) - 1)) : Int).toNat)).bind fun t109 => (some (t109, 0))) else (none)) else (none)) else (some ((⟨#[]⟩ : ByteArray), 7)))) else (none))) else ((strings_ContainsAny.f a0 (⟨#[34, 58, 59, 44]⟩ : ByteArray)).bind fun t106 => (if t106 = true then (some ((⟨#[]⟩ : ByteArray), 7)) else ((escape_caret.f a0).bind fun t107 => (some (t107, 0))))))) else (some ((⟨#[]⟩ : ByteArray), t104)))
theorem escape_Value.mono : ∀ a0 k, LeO (escape_Value.f k a0) (escape_Value.f (k + 1) a0) := by
 intro a0 k
 unfold escape_Value.f
 repeat' first
   | (with_reducible exact escape_Clean.mono _ _ _)
   | (with_reducible exact LeO.refl _)
   | (with_reducible exact LeO.none _)
   | (with_reducible refine LeO.ite ?_ ?_)
   | (with_reducible refine LeO.bind ?_ (fun _ => ?_))
   | exact escape_Clean.mono _ _ _
   | exact LeO.none _
   | refine LeO.ite ?_ ?_
   | refine LeO.bind ?_ (fun _ => ?_)
set_option maxHeartbeats 8000000 in
set_option maxRecDepth 100000 in
theorem escape_Value.calls (k : Nat) (a0 : ByteArray) (r1 : ByteArray) (r2 : Int) (w : World) (hG : GG w) (h : escape_Value.f k a0 = some (r1, r2)) :
  Calls Tryz.prog 57 #[.string a0] w fun e w' => e = .returned (.tuple #[.string r1, .int .i64 r2]) ∧ Below w.heap.size w w' := by
 have HB := Aside0.mk (Below.refl w.heap.size w)
 have H : ((escape_Clean.f k a0 false).bind fun t104 => (if t104 = 0 then ((strings_HasPrefix.f a0 (⟨#[34]⟩ : ByteArray)).bind fun t105 => (if t105 = true then (if (a0.size : Int) < 2 then (some ((⟨#[]⟩ : ByteArray), 7)) else (if 1 ≤ (a0.size : Int) then ((strings_IndexByte.f (a0.extract 1 a0.size) 34).bind fun t108 => (if t108 = (wrap64 ((a0.size : Int) - 2)) then (if 1 ≤ (wrap64 ((a0.size : Int) - 1)) then (if (wrap64 ((a0.size : Int) - 1)) ≤ (a0.size : Int) then ((escape_caret.f (a0.extract 1 ((wrap64 ((a0.size : Int) - 1)) : Int).toNat)).bind fun t109 => (some (t109, 0))) else (none)) else (none)) else (some ((⟨#[]⟩ : ByteArray), 7)))) else (none))) else ((strings_ContainsAny.f a0 (⟨#[34, 58, 59, 44]⟩ : ByteArray)).bind fun t106 => (if t106 = true then (some ((⟨#[]⟩ : ByteArray), 7)) else ((escape_caret.f a0).bind fun t107 => (some (t107, 0))))))) else (some ((⟨#[]⟩ : ByteArray), t104)))) = some (r1, r2) := h
 clear h
 replace H := Option.bind_eq_some_iff.mp H
 obtain ⟨t104, A20, H⟩ := H
 replace H : (if t104 = 0 then ((strings_HasPrefix.f a0 (⟨#[34]⟩ : ByteArray)).bind fun t105 => (if t105 = true then (if (a0.size : Int) < 2 then (some ((⟨#[]⟩ : ByteArray), 7)) else (if 1 ≤ (a0.size : Int) then ((strings_IndexByte.f (a0.extract 1 a0.size) 34).bind fun t108 => (if t108 = (wrap64 ((a0.size : Int) - 2)) then (if 1 ≤ (wrap64 ((a0.size : Int) - 1)) then (if (wrap64 ((a0.size : Int) - 1)) ≤ (a0.size : Int) then ((escape_caret.f (a0.extract 1 ((wrap64 ((a0.size : Int) - 1)) : Int).toNat)).bind fun t109 => (some (t109, 0))) else (none)) else (none)) else (some ((⟨#[]⟩ : ByteArray), 7)))) else (none))) else ((strings_ContainsAny.f a0 (⟨#[34, 58, 59, 44]⟩ : ByteArray)).bind fun t106 => (if t106 = true then (some ((⟨#[]⟩ : ByteArray), 7)) else ((escape_caret.f a0).bind fun t107 => (some (t107, 0))))))) else (some ((⟨#[]⟩ : ByteArray), t104))) = some (r1, r2) := H
 have A2 := Aside0.mk A20
 clear A20
 by_cases c3 : t104 = 0
 ·rw [if_pos c3] at H
  have c3b0 : (t104 == 0) = true := beq_iff_eq.mpr c3
  have c3b1 : (t104 != 0) = false := bne_eq_false_iff_eq.mpr c3
  clear c3
  replace H := Option.bind_eq_some_iff.mp H
  obtain ⟨t105, A40, H⟩ := H
  replace H : (if t105 = true then (if (a0.size : Int) < 2 then (some ((⟨#[]⟩ : ByteArray), 7)) else (if 1 ≤ (a0.size : Int) then ((strings_IndexByte.f (a0.extract 1 a0.size) 34).bind fun t108 => (if t108 = (wrap64 ((a0.size : Int) - 2)) then (if 1 ≤ (wrap64 ((a0.size : Int) - 1)) then (if (wrap64 ((a0.size : Int) - 1)) ≤ (a0.size : Int) then ((escape_caret.f (a0.extract 1 ((wrap64 ((a0.size : Int) - 1)) : Int).toNat)).bind fun t109 => (some (t109, 0))) else (none)) else (none)) else (some ((⟨#[]⟩ : ByteArray), 7)))) else (none))) else ((strings_ContainsAny.f a0 (⟨#[34, 58, 59, 44]⟩ : ByteArray)).bind fun t106 => (if t106 = true then (some ((⟨#[]⟩ : ByteArray), 7)) else ((escape_caret.f a0).bind fun t107 => (some (t107, 0)))))) = some (r1, r2) := H
  have A4 := Aside0.mk A40
  clear A40
  by_cases c5 : t105 = true
  ·subst c5
   rw [if_pos rfl] at H
   by_cases c6 : (a0.size : Int) < 2
   ·rw [if_pos c6] at H
    have c6b0 : decide ((a0.size : Int) < 2) = true := decide_eq_true c6
    have c6b1 : decide (a0.size < 2) = true := decide_eq_true (by omega)
    clear c6
    simp only [Option.some.injEq, Prod.mk.injEq] at H
    obtain ⟨rfl, rfl⟩ := H
    go_enter Tryz.func57, Tryz.ntmps57
    go_wp2_with (first | ((with_reducible refine gate_callee (f := 25) rfl ?_); refine goesL_ (some 6) rfl rfl Tryz.func25 (by kernel_rfl) rfl #[.string a0, .bool false] rfl (by (try simp only [List.map_toArray, List.map_cons, List.map_nil]); first | done | rfl | (simp only [List.length_drop, List.length_take]; rfl)) ?_; (with_reducible refine (escape_Clean.calls k a0 false t104 _ (by first | (with_reducible exact hG) | exact GG.below hG (by repeat (first | (with_reducible first | exact HB.out | apply below_alloc | apply pw_below_drewN | apply below_drew1) | exact HB.out))) A2.out).mono ?_); rintro e w7 ⟨rfl, hb⟩; refine ⟨_, rfl, ?_⟩; have n0_ := Aside0.mk (below_step (by repeat (first | (with_reducible first | exact HB.out | apply below_alloc | apply pw_below_drewN | apply below_drew1) | exact HB.out)) hb); clear HB; have HB := n0_; clear n0_; (try clear hb); (try clear hb2); (try clear hk); (try clear hi)) | ((with_reducible refine gate_callee (f := 66) rfl ?_); refine goesL_ (some 11) rfl rfl Tryz.func66 (by kernel_rfl) rfl #[.string a0, .string (⟨#[34]⟩ : ByteArray)] rfl (by (try simp only [List.map_toArray, List.map_cons, List.map_nil]); first | done | rfl | (simp only [List.length_drop, List.length_take]; rfl)) ?_; (with_reducible refine (strings_HasPrefix.calls a0 (⟨#[34]⟩ : ByteArray) true _ (by first | (with_reducible exact hG) | exact GG.below hG (by repeat (first | (with_reducible first | exact HB.out | apply below_alloc | apply pw_below_drewN | apply below_drew1) | exact HB.out))) A4.out).mono ?_); rintro e w' ⟨rfl, ⟨nd, rfl⟩⟩; refine ⟨_, rfl, ?_⟩))
    go_ret2
    exact ⟨by first | rfl | (simp [errW_none, errW_some] <;> rfl) | (simp [*, errW_none, errW_some] <;> rfl), by repeat (first | (with_reducible first | exact HB.out | apply below_alloc | apply pw_below_drewN | apply below_drew1) | exact HB.out)⟩
   ·rw [if_neg c6] at H
    have c6b0 : decide ((a0.size : Int) < 2) = false := decide_eq_false c6
    have c6b1 : decide (a0.size < 2) = false := decide_eq_false (by omega)
    clear c6
    by_cases c8 : 1 ≤ (a0.size : Int)
    ·rw [if_pos c8] at H
     have c8b0 := eq_true c8
     have c8b1 : decide (1 ≤ (a0.size : Int)) = true := decide_eq_true c8
     clear c8
     replace H := Option.bind_eq_some_iff.mp H
     obtain ⟨t108, A90, H⟩ := H
     replace H : (if t108 = (wrap64 ((a0.size : Int) - 2)) then (if 1 ≤ (wrap64 ((a0.size : Int) - 1)) then (if (wrap64 ((a0.size : Int) - 1)) ≤ (a0.size : Int) then ((escape_caret.f (a0.extract 1 ((wrap64 ((a0.size : Int) - 1)) : Int).toNat)).bind fun t109 => (some (t109, 0))) else (none)) else (none)) else (some ((⟨#[]⟩ : ByteArray), 7))) = some (r1, r2) := H
     have A9 := Aside0.mk A90
     clear A90
     by_cases c10 : t108 = (wrap64 ((a0.size : Int) - 2))
     ·rw [if_pos c10] at H
      have c10b0 : (t108 == (wrap64 ((a0.size : Int) - 2))) = true := beq_iff_eq.mpr c10
      have c10b1 : (t108 != (wrap64 ((a0.size : Int) - 2))) = false := bne_eq_false_iff_eq.mpr c10
      clear c10
      by_cases c11 : 1 ≤ (wrap64 ((a0.size : Int) - 1))
      ·rw [if_pos c11] at H
       have c11b0 := eq_true c11
       have c11b1 : decide (1 ≤ (wrap64 ((a0.size : Int) - 1))) = true := decide_eq_true c11
       clear c11
       by_cases c12 : (wrap64 ((a0.size : Int) - 1)) ≤ (a0.size : Int)
       ·rw [if_pos c12] at H
        have c12b0 := eq_true c12
        have c12b1 : decide ((wrap64 ((a0.size : Int) - 1)) ≤ (a0.size : Int)) = true := decide_eq_true c12
        clear c12
        replace H := Option.bind_eq_some_iff.mp H
        obtain ⟨t109, A130, H⟩ := H
        replace H : (some (t109, 0)) = some (r1, r2) := H
        have A13 := Aside0.mk A130
        clear A130
        simp only [Option.some.injEq, Prod.mk.injEq] at H
        obtain ⟨rfl, rfl⟩ := H
        go_enter Tryz.func57, Tryz.ntmps57
        go_wp2_with (first | ((with_reducible refine gate_callee (f := 25) rfl ?_); refine goesL_ (some 6) rfl rfl Tryz.func25 (by kernel_rfl) rfl #[.string a0, .bool false] rfl (by (try simp only [List.map_toArray, List.map_cons, List.map_nil]); first | done | rfl | (simp only [List.length_drop, List.length_take]; rfl)) ?_; (with_reducible refine (escape_Clean.calls k a0 false t104 _ (by first | (with_reducible exact hG) | exact GG.below hG (by repeat (first | (with_reducible first | exact HB.out | apply below_alloc | apply pw_below_drewN | apply below_drew1) | exact HB.out))) A2.out).mono ?_); rintro e w14 ⟨rfl, hb⟩; refine ⟨_, rfl, ?_⟩; have n0_ := Aside0.mk (below_step (by repeat (first | (with_reducible first | exact HB.out | apply below_alloc | apply pw_below_drewN | apply below_drew1) | exact HB.out)) hb); clear HB; have HB := n0_; clear n0_; (try clear hb); (try clear hb2); (try clear hk); (try clear hi)) | ((with_reducible refine gate_callee (f := 66) rfl ?_); refine goesL_ (some 11) rfl rfl Tryz.func66 (by kernel_rfl) rfl #[.string a0, .string (⟨#[34]⟩ : ByteArray)] rfl (by (try simp only [List.map_toArray, List.map_cons, List.map_nil]); first | done | rfl | (simp only [List.length_drop, List.length_take]; rfl)) ?_; (with_reducible refine (strings_HasPrefix.calls a0 (⟨#[34]⟩ : ByteArray) true _ (by first | (with_reducible exact hG) | exact GG.below hG (by repeat (first | (with_reducible first | exact HB.out | apply below_alloc | apply pw_below_drewN | apply below_drew1) | exact HB.out))) A4.out).mono ?_); rintro e w' ⟨rfl, ⟨nd, rfl⟩⟩; refine ⟨_, rfl, ?_⟩) | (go_at_call 56; (with_reducible refine (strings_IndexByte.calls (a0.extract 1 a0.size) 34 t108 _ (by first | (with_reducible exact hG) | exact GG.below hG (by repeat (first | (with_reducible first | exact HB.out | apply below_alloc | apply pw_below_drewN | apply below_drew1) | exact HB.out))) A9.out).mono ?_); rintro e w' ⟨rfl, ⟨nd, rfl⟩⟩) | ((with_reducible refine gate_callee (f := 67) rfl ?_); refine goesL_ (some 34) rfl rfl Tryz.func67 (by kernel_rfl) rfl #[.string (a0.extract 1 ((wrap64 ((a0.size : Int) - 1)) : Int).toNat)] rfl (by (try simp only [List.map_toArray, List.map_cons, List.map_nil]); first | done | rfl | (simp only [List.length_drop, List.length_take]; rfl)) ?_; (with_reducible refine (escape_caret.calls (a0.extract 1 ((wrap64 ((a0.size : Int) - 1)) : Int).toNat) t109 _ (by first | (with_reducible exact hG) | exact GG.below hG (by repeat (first | (with_reducible first | exact HB.out | apply below_alloc | apply pw_below_drewN | apply below_drew1) | exact HB.out))) A13.out).mono ?_); rintro e w15 ⟨rfl, hb⟩; refine ⟨_, rfl, ?_⟩; have n0_ := Aside0.mk (below_step (by repeat (first | (with_reducible first | exact HB.out | apply below_alloc | apply pw_below_drewN | apply below_drew1) | exact HB.out)) hb); clear HB; have HB := n0_; clear n0_; (try clear hb); (try clear hb2); (try clear hk); (try clear hi)))
        go_ret2
        exact ⟨by first | rfl | (simp [errW_none, errW_some] <;> rfl) | (simp [*, errW_none, errW_some] <;> rfl), by repeat (first | (with_reducible first | exact HB.out | apply below_alloc | apply pw_below_drewN | apply below_drew1) | exact HB.out)⟩
       ·rw [if_neg c12] at H
        exact absurd H (by simp)
      ·rw [if_neg c11] at H
       exact absurd H (by simp)
     ·rw [if_neg c10] at H
      have c10b0 : (t108 == (wrap64 ((a0.size : Int) - 2))) = false := beq_eq_false_iff_ne.mpr c10
      have c10b1 : (t108 != (wrap64 ((a0.size : Int) - 2))) = true := bne_iff_ne.mpr c10
      simp only [Option.some.injEq, Prod.mk.injEq] at H
      obtain ⟨rfl, rfl⟩ := H
      go_enter Tryz.func57, Tryz.ntmps57
      go_wp2_with (first | ((with_reducible refine gate_callee (f := 25) rfl ?_); refine goesL_ (some 6) rfl rfl Tryz.func25 (by kernel_rfl) rfl #[.string a0, .bool false] rfl (by (try simp only [List.map_toArray, List.map_cons, List.map_nil]); first | done | rfl | (simp only [List.length_drop, List.length_take]; rfl)) ?_; (with_reducible refine (escape_Clean.calls k a0 false t104 _ (by first | (with_reducible exact hG) | exact GG.below hG (by repeat (first | (with_reducible first | exact HB.out | apply below_alloc | apply pw_below_drewN | apply below_drew1) | exact HB.out))) A2.out).mono ?_); rintro e w16 ⟨rfl, hb⟩; refine ⟨_, rfl, ?_⟩; have n0_ := Aside0.mk (below_step (by repeat (first | (with_reducible first | exact HB.out | apply below_alloc | apply pw_below_drewN | apply below_drew1) | exact HB.out)) hb); clear HB; have HB := n0_; clear n0_; (try clear hb); (try clear hb2); (try clear hk); (try clear hi)) | ((with_reducible refine gate_callee (f := 66) rfl ?_); refine goesL_ (some 11) rfl rfl Tryz.func66 (by kernel_rfl) rfl #[.string a0, .string (⟨#[34]⟩ : ByteArray)] rfl (by (try simp only [List.map_toArray, List.map_cons, List.map_nil]); first | done | rfl | (simp only [List.length_drop, List.length_take]; rfl)) ?_; (with_reducible refine (strings_HasPrefix.calls a0 (⟨#[34]⟩ : ByteArray) true _ (by first | (with_reducible exact hG) | exact GG.below hG (by repeat (first | (with_reducible first | exact HB.out | apply below_alloc | apply pw_below_drewN | apply below_drew1) | exact HB.out))) A4.out).mono ?_); rintro e w' ⟨rfl, ⟨nd, rfl⟩⟩; refine ⟨_, rfl, ?_⟩) | (go_at_call 56; (with_reducible refine (strings_IndexByte.calls (a0.extract 1 a0.size) 34 t108 _ (by first | (with_reducible exact hG) | exact GG.below hG (by repeat (first | (with_reducible first | exact HB.out | apply below_alloc | apply pw_below_drewN | apply below_drew1) | exact HB.out))) A9.out).mono ?_); rintro e w' ⟨rfl, ⟨nd, rfl⟩⟩))
      go_ret2
      exact ⟨by first | rfl | (simp [errW_none, errW_some] <;> rfl) | (simp [*, errW_none, errW_some] <;> rfl), by repeat (first | (with_reducible first | exact HB.out | apply below_alloc | apply pw_below_drewN | apply below_drew1) | exact HB.out)⟩
    ·rw [if_neg c8] at H
     exact absurd H (by simp)
  ·replace c5 := Bool.eq_false_iff.mpr c5
   subst c5
   rw [if_neg (show ¬ (false = true) by decide)] at H
   replace H := Option.bind_eq_some_iff.mp H
   obtain ⟨t106, A170, H⟩ := H
   replace H : (if t106 = true then (some ((⟨#[]⟩ : ByteArray), 7)) else ((escape_caret.f a0).bind fun t107 => (some (t107, 0)))) = some (r1, r2) := H
   have A17 := Aside0.mk A170
   clear A170
   by_cases c18 : t106 = true
   ·subst c18
    rw [if_pos rfl] at H
    simp only [Option.some.injEq, Prod.mk.injEq] at H
    obtain ⟨rfl, rfl⟩ := H
    go_enter Tryz.func57, Tryz.ntmps57
    go_wp2_with (first | ((with_reducible refine gate_callee (f := 25) rfl ?_); refine goesL_ (some 6) rfl rfl Tryz.func25 (by kernel_rfl) rfl #[.string a0, .bool false] rfl (by (try simp only [List.map_toArray, List.map_cons, List.map_nil]); first | done | rfl | (simp only [List.length_drop, List.length_take]; rfl)) ?_; (with_reducible refine (escape_Clean.calls k a0 false t104 _ (by first | (with_reducible exact hG) | exact GG.below hG (by repeat (first | (with_reducible first | exact HB.out | apply below_alloc | apply pw_below_drewN | apply below_drew1) | exact HB.out))) A2.out).mono ?_); rintro e w19 ⟨rfl, hb⟩; refine ⟨_, rfl, ?_⟩; have n0_ := Aside0.mk (below_step (by repeat (first | (with_reducible first | exact HB.out | apply below_alloc | apply pw_below_drewN | apply below_drew1) | exact HB.out)) hb); clear HB; have HB := n0_; clear n0_; (try clear hb); (try clear hb2); (try clear hk); (try clear hi)) | ((with_reducible refine gate_callee (f := 66) rfl ?_); refine goesL_ (some 11) rfl rfl Tryz.func66 (by kernel_rfl) rfl #[.string a0, .string (⟨#[34]⟩ : ByteArray)] rfl (by (try simp only [List.map_toArray, List.map_cons, List.map_nil]); first | done | rfl | (simp only [List.length_drop, List.length_take]; rfl)) ?_; (with_reducible refine (strings_HasPrefix.calls a0 (⟨#[34]⟩ : ByteArray) false _ (by first | (with_reducible exact hG) | exact GG.below hG (by repeat (first | (with_reducible first | exact HB.out | apply below_alloc | apply pw_below_drewN | apply below_drew1) | exact HB.out))) A4.out).mono ?_); rintro e w' ⟨rfl, ⟨nd, rfl⟩⟩; refine ⟨_, rfl, ?_⟩) | ((with_reducible refine gate_callee (f := 43) rfl ?_); refine goesL_ (some 14) rfl rfl Tryz.func43 (by kernel_rfl) rfl #[.string a0, .string (⟨#[34, 58, 59, 44]⟩ : ByteArray)] rfl (by (try simp only [List.map_toArray, List.map_cons, List.map_nil]); first | done | rfl | (simp only [List.length_drop, List.length_take]; rfl)) ?_; (with_reducible refine (strings_ContainsAny.calls a0 (⟨#[34, 58, 59, 44]⟩ : ByteArray) true _ (by first | (with_reducible exact hG) | exact GG.below hG (by repeat (first | (with_reducible first | exact HB.out | apply below_alloc | apply pw_below_drewN | apply below_drew1) | exact HB.out))) A17.out).mono ?_); rintro e w20 ⟨rfl, hb⟩; refine ⟨_, rfl, ?_⟩; have n0_ := Aside0.mk (below_step (by repeat (first | (with_reducible first | exact HB.out | apply below_alloc | apply pw_below_drewN | apply below_drew1) | exact HB.out)) hb); clear HB; have HB := n0_; clear n0_; (try clear hb); (try clear hb2); (try clear hk); (try clear hi)))
    go_ret2
    exact ⟨by first | rfl | (simp [errW_none, errW_some] <;> rfl) | (simp [*, errW_none, errW_some] <;> rfl), by repeat (first | (with_reducible first | exact HB.out | apply below_alloc | apply pw_below_drewN | apply below_drew1) | exact HB.out)⟩
   ·replace c18 := Bool.eq_false_iff.mpr c18
    subst c18
    rw [if_neg (show ¬ (false = true) by decide)] at H
    replace H := Option.bind_eq_some_iff.mp H
    obtain ⟨t107, A210, H⟩ := H
    replace H : (some (t107, 0)) = some (r1, r2) := H
    have A21 := Aside0.mk A210
    clear A210
    simp only [Option.some.injEq, Prod.mk.injEq] at H
    obtain ⟨rfl, rfl⟩ := H
    go_enter Tryz.func57, Tryz.ntmps57
    go_wp2_with (first | ((with_reducible refine gate_callee (f := 25) rfl ?_); refine goesL_ (some 6) rfl rfl Tryz.func25 (by kernel_rfl) rfl #[.string a0, .bool false] rfl (by (try simp only [List.map_toArray, List.map_cons, List.map_nil]); first | done | rfl | (simp only [List.length_drop, List.length_take]; rfl)) ?_; (with_reducible refine (escape_Clean.calls k a0 false t104 _ (by first | (with_reducible exact hG) | exact GG.below hG (by repeat (first | (with_reducible first | exact HB.out | apply below_alloc | apply pw_below_drewN | apply below_drew1) | exact HB.out))) A2.out).mono ?_); rintro e w22 ⟨rfl, hb⟩; refine ⟨_, rfl, ?_⟩; have n0_ := Aside0.mk (below_step (by repeat (first | (with_reducible first | exact HB.out | apply below_alloc | apply pw_below_drewN | apply below_drew1) | exact HB.out)) hb); clear HB; have HB := n0_; clear n0_; (try clear hb); (try clear hb2); (try clear hk); (try clear hi)) | ((with_reducible refine gate_callee (f := 66) rfl ?_); refine goesL_ (some 11) rfl rfl Tryz.func66 (by kernel_rfl) rfl #[.string a0, .string (⟨#[34]⟩ : ByteArray)] rfl (by (try simp only [List.map_toArray, List.map_cons, List.map_nil]); first | done | rfl | (simp only [List.length_drop, List.length_take]; rfl)) ?_; (with_reducible refine (strings_HasPrefix.calls a0 (⟨#[34]⟩ : ByteArray) false _ (by first | (with_reducible exact hG) | exact GG.below hG (by repeat (first | (with_reducible first | exact HB.out | apply below_alloc | apply pw_below_drewN | apply below_drew1) | exact HB.out))) A4.out).mono ?_); rintro e w' ⟨rfl, ⟨nd, rfl⟩⟩; refine ⟨_, rfl, ?_⟩) | ((with_reducible refine gate_callee (f := 43) rfl ?_); refine goesL_ (some 14) rfl rfl Tryz.func43 (by kernel_rfl) rfl #[.string a0, .string (⟨#[34, 58, 59, 44]⟩ : ByteArray)] rfl (by (try simp only [List.map_toArray, List.map_cons, List.map_nil]); first | done | rfl | (simp only [List.length_drop, List.length_take]; rfl)) ?_; (with_reducible refine (strings_ContainsAny.calls a0 (⟨#[34, 58, 59, 44]⟩ : ByteArray) false _ (by first | (with_reducible exact hG) | exact GG.below hG (by repeat (first | (with_reducible first | exact HB.out | apply below_alloc | apply pw_below_drewN | apply below_drew1) | exact HB.out))) A17.out).mono ?_); rintro e w23 ⟨rfl, hb⟩; refine ⟨_, rfl, ?_⟩; have n0_ := Aside0.mk (below_step (by repeat (first | (with_reducible first | exact HB.out | apply below_alloc | apply pw_below_drewN | apply below_drew1) | exact HB.out)) hb); clear HB; have HB := n0_; clear n0_; (try clear hb); (try clear hb2); (try clear hk); (try clear hi)) | ((with_reducible refine gate_callee (f := 67) rfl ?_); refine goesL_ (some 16) rfl rfl Tryz.func67 (by kernel_rfl) rfl #[.string a0] rfl (by (try simp only [List.map_toArray, List.map_cons, List.map_nil]); first | done | rfl | (simp only [List.length_drop, List.length_take]; rfl)) ?_; (with_reducible refine (escape_caret.calls a0 t107 _ (by first | (with_reducible exact hG) | exact GG.below hG (by repeat (first | (with_reducible first | exact HB.out | apply below_alloc | apply pw_below_drewN | apply below_drew1) | exact HB.out))) A21.out).mono ?_); rintro e w24 ⟨rfl, hb⟩; refine ⟨_, rfl, ?_⟩; have n0_ := Aside0.mk (below_step (by repeat (first | (with_reducible first | exact HB.out | apply below_alloc | apply pw_below_drewN | apply below_drew1) | exact HB.out)) hb); clear HB; have HB := n0_; clear n0_; (try clear hb); (try clear hb2); (try clear hk); (try clear hi)))
    go_ret2
    exact ⟨by first | rfl | (simp [errW_none, errW_some] <;> rfl) | (simp [*, errW_none, errW_some] <;> rfl), by repeat (first | (with_reducible first | exact HB.out | apply below_alloc | apply pw_below_drewN | apply below_drew1) | exact HB.out)⟩
 ·rw [if_neg c3] at H
  have c3b0 : (t104 == 0) = false := beq_eq_false_iff_ne.mpr c3
  have c3b1 : (t104 != 0) = true := bne_iff_ne.mpr c3
  simp only [Option.some.injEq, Prod.mk.injEq] at H
  obtain ⟨rfl, rfl⟩ := H
  go_enter Tryz.func57, Tryz.ntmps57
  go_wp2_with (first | ((with_reducible refine gate_callee (f := 25) rfl ?_); refine goesL_ (some 6) rfl rfl Tryz.func25 (by kernel_rfl) rfl #[.string a0, .bool false] rfl (by (try simp only [List.map_toArray, List.map_cons, List.map_nil]); first | done | rfl | (simp only [List.length_drop, List.length_take]; rfl)) ?_; (with_reducible refine (escape_Clean.calls k a0 false t104 _ (by first | (with_reducible exact hG) | exact GG.below hG (by repeat (first | (with_reducible first | exact HB.out | apply below_alloc | apply pw_below_drewN | apply below_drew1) | exact HB.out))) A2.out).mono ?_); rintro e w25 ⟨rfl, hb⟩; refine ⟨_, rfl, ?_⟩; have n0_ := Aside0.mk (below_step (by repeat (first | (with_reducible first | exact HB.out | apply below_alloc | apply pw_below_drewN | apply below_drew1) | exact HB.out)) hb); clear HB; have HB := n0_; clear n0_; (try clear hb); (try clear hb2); (try clear hk); (try clear hi)))
  go_ret2
  exact ⟨by first | rfl | (simp [errW_none, errW_some] <;> rfl) | (simp [*, errW_none, errW_some] <;> rfl), by repeat (first | (with_reducible first | exact HB.out | apply below_alloc | apply pw_below_drewN | apply below_drew1) | exact HB.out)⟩
end Go.Proofs.YtknmbalhbecdhaaGreatDoor.Print
end
section
set_option linter.unusedVariables false
set_option linter.unusedSimpArgs false
namespace Go.Proofs.YtknmbalhbecdhaaGreatDoor.Print
open Go.RowKit Go.Proofs.YtknmbalhbecdhaaGreatDoorW.PrintWords Go.Proofs.YtknmbalhbecdhaaGreatDoorW.PrintLast
theorem addr_plain {w : World} {ad : Addr} {v : Value} (h : w.cell? (ad.add 0) = some v) : ∃ b o, ad = ⟨b, o, none⟩ := by
  obtain ⟨b, o, sp⟩ := ad
  cases sp with
  | none => exact ⟨b, o, rfl⟩
  | some z =>
    exfalso
    unfold Addr.add at h
    rw [if_pos rfl] at h
    simp only [World.cell?] at h; split at h <;> simp at h
theorem add_plainO (b o j : Nat) : (⟨b, o, none⟩ : Addr).add j = ⟨b, o + j, none⟩ := by
  unfold Addr.add
  split
  · rename_i h8; subst h8; rfl
  · rfl
theorem ba_toList {a b : ByteArray} (h : a.toList = b.toList) : a = b := by
  have : a.data.toList = b.data.toList := by rw [← Go.ByteArray.toList_eq a, ← Go.ByteArray.toList_eq b]; exact h
  cases a; cases b; simp at this; rw [this]
theorem cellLt0 {w : World} {a : Addr} {v : Value} (h : w.cell? a = some v) : a.block < w.heap.size := by
  rcases Nat.lt_or_ge a.block w.heap.size with h9 | h9
  · exact h9
  · simp [World.cell?, Array.getElem?_eq_none h9] at h
/-- A row of strings, by its block. -/
theorem strs_row {w : World} {A : Option Addr} {xs : List ByteArray} (h : Kd.C Kd.string w A xs.length xs) (hn : xs ≠ []) : ∃ b o, A = some ⟨b, o, none⟩ ∧ ∀ j, j < xs.length → w.cell? ⟨b, o + j, none⟩ = some (.string (xs.getD j ByteArray.empty)) := by
  have hl : 0 < xs.length := by cases xs with
    | nil => exact absurd rfl hn
    | cons _ _ => simp
  obtain ⟨_, _, hcell⟩ := Kd.reads_of_C (d := ByteArray.empty) (h1 := fun _ => rfl) h
  obtain ⟨ad, hA, hcl⟩ := hcell hl
  obtain ⟨b, o, rfl⟩ := addr_plain (hcl 0 hl)
  exact ⟨b, o, hA, fun j hj => by rw [← add_plainO]; exact hcl j hj⟩
/-- A parameter of a row, by its block. -/
theorem par_at {w : World} {A : Option Addr} {l : List S53} (h : Kd.C k53 w A l.length l) (i : Nat) (hi : i < l.length) : ∃ b o A1 c1, A = some ⟨b, o, none⟩ ∧ w.cell? ⟨b, o + i * 2, none⟩ = some (.string (l.getD i z53).f0) ∧ w.cell? ⟨b, o + i * 2 + 1, none⟩ = some (.slice A1 (l.getD i z53).f1.length c1) ∧ (l.getD i z53).f1.length ≤ c1 ∧ Kd.C Kd.string w A1 (l.getD i z53).f1.length (l.getD i z53).f1 := by
  obtain ⟨ad, A1, c1, hA, h0, h1, hc, hC⟩ := at_T53 h i (by omega) (by omega)
  obtain ⟨ad', _, _, hA', h0', _⟩ := at_T53 h 0 (by omega) (by omega)
  obtain rfl : ad = ad' := by rw [hA] at hA'; exact Option.some.inj hA'
  obtain ⟨b, o, rfl⟩ := addr_plain (show w.cell? (ad.add 0) = _ from h0')
  refine ⟨b, o, A1, c1, hA, ?_, ?_, hc, hC⟩
  · rw [add_plainO] at h0; exact h0
  · rw [add_plainO] at h1; exact h1
theorem beqS_no {a b : ByteArray} (h : ¬ a = b) : (a.toList == b.toList) = false := by rw [beq_eq_false_iff_ne]; exact fun e => h (ba_toList e)
end Go.Proofs.YtknmbalhbecdhaaGreatDoor.Print
end
section
set_option linter.unusedVariables false
set_option linter.unusedSimpArgs false
namespace Go.Proofs.YtknmbalhbecdhaaGreatDoor.Print
open Go.RowKit Go.Proofs.YtknmbalhbecdhaaGreatDoorW.PrintWords Go.Proofs.YtknmbalhbecdhaaGreatDoorW.PrintLast
def hasN (a : ByteArray) (p : S53) : Bool := decide (p.f0 = a)
/-- Where a parameter of a name stands, from a place on; -1: there is none. -/
def idxN (a : ByteArray) : List S53 → Nat → Int
  | [], _ => -1
  | p :: t, i => if hasN a p = true then (i : Int) else idxN a t (i + 1)
theorem beqS_yes (a : ByteArray) : (a.toList == a.toList) = true := beq_self_eq_true _
theorem at1_walk (p : S53) (a : ByteArray) (A : Option Addr) (c : Nat) (x : Addr) (w : World) (hx : w.cell? x = some (.string a)) :
    Calls Tryz.prog 46 #[.agg #[.string p.f0, .slice A p.f1.length c], .pointer (some x)] w fun e w' => e = .returned (.bool (hasN a p)) ∧ Below w.heap.size w w' := by
  have hxl := cellLt0 hx
  by_cases h : p.f0 = a
  · have hr : hasN a p = true := decide_eq_true h
    have hb : (p.f0.toList == a.toList) = true := by rw [h]; exact beqS_yes a
    rw [hr]
    clear hr h
    go_enter Tryz.func46, Tryz.ntmps46
    go_wp2_with fail
    go_ret
    exact ⟨rfl, below_alloc (Below.refl _ _) _⟩
  · have hr : hasN a p = false := decide_eq_false h
    have hb := beqS_no h
    rw [hr]
    clear hr h
    go_enter Tryz.func46, Tryz.ntmps46
    go_wp2_with fail
    go_ret
    exact ⟨rfl, below_alloc (Below.refl _ _) _⟩
set_option maxHeartbeats 4000000 in
set_option maxRecDepth 100000 in
theorem idxF_walk (A0 : Option Addr) (c0 : Nat) (l0 : List S53) (a : ByteArray) (x : Addr) (w : World) (h0 : Kd.C k53 w A0 l0.length l0) (hx : w.cell? x = some (.string a)) :
    Calls Tryz.prog 45 #[.slice A0 l0.length c0, .func (.func 46) #[] #[.pointer (some x)]] w fun e w' => e = .returned (.int .i64 (idxN a l0 0)) ∧ Below w.heap.size w w' := by
  have hm := h0.2.1
  have H0 := Aside0.mk h0
  have HX := Aside0.mk hx
  have hxl := cellLt0 hx
  clear h0 hx
  obtain ⟨n, hn⟩ : ∃ n, n = l0.length := ⟨_, rfl⟩
  have HN := Aside0.mk hn
  rw [← hn] at hm ⊢
  clear hn
  go_enter Tryz.func45, Tryz.ntmps45
  go_wp2_with fail
  go_loopg [5, 8] n (fun g v5 v8 wr => ∃ i : Nat, v8 = .int .i64 i ∧ i ≤ n ∧ Aside0 (n ≤ i + g) ∧ Aside0 (Below w.heap.size w wr) ∧ Aside0 (idxN a l0 0 = idxN a (l0.drop i) i))
  case atStart => exact ⟨0, rfl, by omega, ⟨by omega⟩, ⟨Below.refl _ _⟩, ⟨rfl⟩⟩
  case round =>
    obtain ⟨i, rfl, hi, HG, HB, HE⟩ := hrel
    by_cases hlt : i < n
    · cases gk with
      | zero => exfalso; have := HG.out; omega
      | succ g =>
      obtain ⟨b0, o0, A2, c2, e0, p0, p1, hc2, hC2⟩ := par_at (Kd.C_below H0.out HB.out) i (by have := HN.out; omega)
      subst e0
      have hd : l0.drop i = l0.getD i z53 :: l0.drop (i + 1) := by
        rw [List.drop_eq_getElem_cons (by have := HN.out; omega), List.getD_eq_getElem?_getD, List.getElem?_eq_getElem (by have := HN.out; omega)]; rfl
      obtain ⟨p, hp⟩ : ∃ p, p = l0.getD i z53 := ⟨_, rfl⟩
      rw [← hp] at p0 p1 hd
      have HD := Aside0.mk hd
      clear hC2 hc2 hp hd
      have HQQ := Aside0.mk (at1_walk p a A2 c2 x)
      obtain ⟨r, hr⟩ : ∃ r, r = hasN a p := ⟨_, rfl⟩
      have HR := Aside0.mk hr
      rw [← hr] at HQQ
      clear hr
      go_wp2_with fail
      go_at_call 46
      refine (HQQ.out _ ((HB.out.cell hxl).trans HX.out)).mono ?_
      rintro e w2 ⟨rfl, hB⟩
      have HB2 := Aside0.mk (HB.out.trans (hB.mono HB.out.size))
      clear hB
      cases r with
      | true =>
        go_wp2_with fail
        go_ret
        exact ⟨by rw [HE.out, HD.out, idxN, if_pos HR.out.symm]; rfl, HB2.out⟩
      | false =>
        go_wp2_with fail
        go_roundg g
        case measure => have := HG.out; omega
        case rel => exact ⟨i + 1, by first | rfl | (go_num; done), by omega, ⟨by have := HG.out; omega⟩, HB2, ⟨by rw [HE.out, HD.out, idxN, if_neg (by rw [← HR.out]; simp)]⟩⟩
    · have hin : i = n := by omega
      subst hin
      go_wp2_with fail
      go_ret
      refine ⟨?_, HB.out⟩
      rw [HE.out, List.drop_eq_nil_of_le (by have := HN.out; omega)]
      rfl
def line_at.f (l0 : List S53) (a1 : ByteArray) : Option Int := some (idxN a1 l0 0)
theorem line_at.calls (A0 : Option Addr) (c0 : Nat) (l0 : List S53) (a1 : ByteArray) (r : Int) (w : World) (hG : GG w) (hr0 : Kd.C k53 w A0 l0.length l0) (hc0 : l0.length ≤ c0) (h : line_at.f l0 a1 = some r) :
    Calls Tryz.prog 27 #[.slice A0 l0.length c0, .string a1] w fun e w' => e = .returned (.int .i64 r) ∧ Below w.heap.size w w' := by
  obtain rfl := Option.some.inj h
  have H0 := Aside0.mk hr0
  clear h hG hr0 hc0
  obtain ⟨n, hn⟩ : ∃ n, n = l0.length := ⟨_, rfl⟩
  have HN := Aside0.mk hn
  rw [← hn]
  obtain ⟨r, hr⟩ : ∃ r, r = idxN a1 l0 0 := ⟨_, rfl⟩
  have HR := Aside0.mk hr
  rw [← hr]
  clear hn hr
  have hmf : ∀ (fn : Fn) (first cap : Array Value) (w : World), (Instr.makeFunc fn first cap).run Tryz.prog w = .ok (.func fn first cap) w := fun _ _ _ _ => rfl
  go_enter Tryz.func27, Tryz.ntmps27
  go_wp2_with fail
  go_at_call 45
  rw [HN.out]
  refine (idxF_walk A0 c0 l0 a1 ⟨w.heap.size, 0, none⟩ _ (Kd.C_below H0.out (below_alloc (Below.refl _ _) _)) (by rw [World.cell?_alloc_at _ _ _ _ rfl]; rfl)).mono ?_
  rintro e w2 ⟨rfl, hB⟩
  have HB := Aside0.mk hB
  clear hB
  rw [← HR.out, ← HN.out]
  go_wp2_with fail
  go_ret
  exact ⟨rfl, (below_alloc (Below.refl _ _) _).trans (HB.out.mono (by simp))⟩
end Go.Proofs.YtknmbalhbecdhaaGreatDoor.Print
end
section
set_option linter.unusedVariables false
set_option linter.unusedSimpArgs false
namespace Go.Proofs.YtknmbalhbecdhaaGreatDoor.Print
open Go.RowKit Go.Proofs.YtknmbalhbecdhaaGreatDoorW.PrintWords Go.Proofs.YtknmbalhbecdhaaGreatDoorW.PrintLast
def greatB (c : UInt8) : UInt8 := if 97 ≤ c.toNat ∧ c.toNat ≤ 122 then c - 32 else c
theorem greatB_yes (c : UInt8) (h : 97 ≤ c.toNat) (h2 : c.toNat ≤ 122) : ((greatB c).toNat : Int) = (c.toNat : Int) - 32 := by
  unfold greatB
  rw [if_pos ⟨h, h2⟩, UInt8.toNat_sub_of_le c 32 (by rw [UInt8.le_iff_toNat_le]; show 32 ≤ _; omega)]
  show ((c.toNat - 32 : Nat) : Int) = _
  omega
theorem greatB_no (c : UInt8) (h : ¬ (97 ≤ c.toNat ∧ c.toNat ≤ 122)) : greatB c = c := if_neg h
theorem gcv_blk (s : ByteArray) (w : World) : ∃ w' cap cs, (convert 9 46 (.string s)).run Tryz.prog w = .ok (.slice (some ⟨w.heap.size, 0, none⟩) s.size cap) w' ∧ Below w.heap.size w w' ∧ w'.heap[w.heap.size]? = some (.cells cs 5 (cs.size, cs.size + 1)) ∧ s.size ≤ cs.size ∧ (∀ j, j < s.size → cs[j]? = some (.int .u8 ((s.data.toList.getD j 0).toNat : Nat))) := by
  refine ⟨Lib.bytesWorld w 5 s, _, _, Lib.run_convert_string_bytes w 9 46 5 s Tryz.underlying9 Tryz.underlying46 Tryz.underlying5, ⟨?_, ?_, ?_, ?_, fun j hj => Lib.bytesWorld_at_old w 5 s j hj⟩, Lib.bytesWorld_at_new w 5 s, ?_, fun j hj => ?_⟩
  · unfold Lib.bytesWorld World.freeze; split <;> rfl
  · unfold Lib.bytesWorld World.freeze; split <;> rfl
  · unfold Lib.bytesWorld World.freeze; split <;> rfl
  · rw [Lib.bytesWorld_size]; omega
  · unfold Lib.bytesCells; rw [Array.size_append, Array.size_map]; show s.data.size ≤ _; omega
  · have h := Lib.bytesWorld_cell w 5 s j hj
    simp only [World.cell?, Lib.bytesWorld_at_new] at h
    simpa using h
theorem gblk_cell {w : World} {g : Nat} {cs : Array Value} {t : TypeId} {fr : Nat × Nat} (h : w.heap[g]? = some (.cells cs t fr)) (j : Nat) : w.cell? ⟨g, j, none⟩ = cs[j]? := by simp [World.cell?, h]
theorem gblk_froz {w : World} {g : Nat} {cs : Array Value} {t : TypeId} (h : w.heap[g]? = some (.cells cs t (cs.size, cs.size + 1))) (j : Nat) (hj : j < cs.size) : w.frozen? ⟨g, j, none⟩ = false := by simp [World.frozen?, h]; omega
theorem gblk_set {w : World} {g : Nat} {t : TypeId} {cs : Array Value} {fr : Nat × Nat} (h : w.heap[g]? = some (.cells cs t fr)) (i : Nat) (u : Value) : (w.setCell ⟨g, i, none⟩ u).heap[g]? = some (.cells (cs.setIfInBounds i u) t fr) := by
  simp [World.setCell, Array.getElem?_modify, h]
def greatS (s : ByteArray) : ByteArray := ⟨(s.data.toList.map greatB).toArray⟩
/-- The bytes, great up to a place. -/
structure GrB (s : ByteArray) (G : Nat) (i : Nat) (w : World) : Prop where
  ex : ∃ cs : Array Value, w.heap[G]? = some (.cells cs 5 (cs.size, cs.size + 1)) ∧ s.size ≤ cs.size ∧ (∀ j, j < i → cs[j]? = some (.int .u8 ((greatB (s.data.toList.getD j 0)).toNat : Nat))) ∧ (∀ j, i ≤ j → j < s.size → cs[j]? = some (.int .u8 ((s.data.toList.getD j 0).toNat : Nat)))
theorem grB_step {s : ByteArray} {G i : Nat} {w : World} (h : GrB s G i w) (hi : i < s.size) (u : Value) (hu : u = .int .u8 ((greatB (s.data.toList.getD i 0)).toNat : Nat)) : GrB s G (i + 1) (w.setCell ⟨G, i, none⟩ u) := by
  obtain ⟨cs, h1, h2, h3, h4⟩ := h.ex
  refine ⟨cs.setIfInBounds i u, ?_, by rw [Array.size_setIfInBounds]; exact h2, fun j hj => ?_, fun j hj hjs => ?_⟩
  · rw [Array.size_setIfInBounds]; exact gblk_set h1 i u
  · by_cases e : j = i
    · subst e; rw [Array.getElem?_setIfInBounds_self_of_lt (by omega), hu]
    · rw [Array.getElem?_setIfInBounds_ne (by omega)]; exact h3 j (by omega)
  · rw [Array.getElem?_setIfInBounds_ne (by omega)]; exact h4 j (by omega) hjs
theorem grB_skip {s : ByteArray} {G i : Nat} {w : World} (h : GrB s G i w) (hi : i < s.size) (hu : greatB (s.data.toList.getD i 0) = s.data.toList.getD i 0) : GrB s G (i + 1) w := by
  obtain ⟨cs, h1, h2, h3, h4⟩ := h.ex
  refine ⟨_, h1, h2, fun j hj => ?_, fun j hj hjs => h4 j (by omega) hjs⟩
  by_cases e : j = i
  · subst e; rw [hu]; exact h4 j (Nat.le_refl _) hi
  · exact h3 j (by omega)
set_option maxHeartbeats 4000000 in
set_option maxRecDepth 100000 in
theorem great_walk (s : ByteArray) (w : World) (hs : s.size ≤ 9223372036854775807) :
    Calls Tryz.prog 49 #[.string s] w fun e w' => e = .returned (.string (greatS s)) ∧ Below w.heap.size w w' := by
  obtain ⟨w1, cap, cs, hrun, hB1, hb, hle, hcs⟩ := gcv_blk s w
  obtain ⟨G, hG⟩ : ∃ G, G = w.heap.size := ⟨_, rfl⟩
  rw [← hG] at hrun hb
  have HG := Aside0.mk hG
  have HS := Aside0.mk (show GrB s G 0 w1 from ⟨cs, hb, hle, fun j hj => by omega, fun j _ hj => hcs j hj⟩)
  have HB := Aside0.mk hB1
  clear hb hle hcs hB1 hG
  go_enter Tryz.func49, Tryz.ntmps49
  go_wp2_with fail
  clear hrun
  go_loopg [4, 5, 10] s.size (fun g v4 v5 v10 wr => ∃ i : Nat, v10 = .int .i64 i ∧ i ≤ s.size ∧ Aside0 (s.size ≤ i + g) ∧ Aside0 (GrB s G i wr) ∧ Aside0 (Below w.heap.size w wr))
  case atStart => exact ⟨0, rfl, by omega, ⟨by omega⟩, HS, HB⟩
  case round =>
    obtain ⟨i, rfl, hi, HK, HC, HBr⟩ := hrel
    by_cases hlt : i < s.size
    · cases gk with
      | zero => exfalso; have := HK.out; omega
      | succ g =>
      obtain ⟨cs, h1, h2, h3, h4⟩ := HC.out.ex
      obtain ⟨c, hc⟩ : ∃ c, c = s.data.toList.getD i 0 := ⟨_, rfl⟩
      have hold : wr.cell? ⟨G, i, none⟩ = some (.int .u8 ((c.toNat : Nat) : Int)) := by rw [gblk_cell h1, h4 i (Nat.le_refl _) hlt, ← hc]
      have hfz : wr.frozen? ⟨G, i, none⟩ = false := gblk_froz h1 i (by omega)
      have hc2 : c.toNat < 256 := c.toNat_lt
      have HCc := Aside0.mk hc
      clear h1 h2 h3 h4 hc
      by_cases hg1 : 97 ≤ c.toNat
      · by_cases hg2 : c.toNat ≤ 122
        · have hy := greatB_yes c hg1 hg2
          have HY := Aside0.mk hy
          clear hy
          have k1 : decide ((c.toNat : Int) ≥ 97) = true := decide_eq_true (by omega)
          have k2 : decide ((c.toNat : Int) ≤ 122) = true := decide_eq_true (by omega)
          go_wp2_with fail
          go_roundg g
          case measure => have := HK.out; omega
          case rel => exact ⟨i + 1, by first | rfl | (go_num; done), by omega, ⟨by have := HK.out; omega⟩, ⟨grB_step HC.out hlt _ (by rw [← HCc.out, HY.out])⟩, ⟨Below.setCell HBr.out (by have := HG.out; show _ ≤ G; omega) _⟩⟩
        · have hy := greatB_no c (by omega)
          have HY := Aside0.mk hy
          clear hy
          have k1 : decide ((c.toNat : Int) ≥ 97) = true := decide_eq_true (by omega)
          have k2 : decide ((c.toNat : Int) ≤ 122) = false := decide_eq_false (by omega)
          go_wp2_with fail
          go_roundg g
          case measure => have := HK.out; omega
          case rel => exact ⟨i + 1, by first | rfl | (go_num; done), by omega, ⟨by have := HK.out; omega⟩, ⟨grB_skip HC.out hlt (by rw [← HCc.out, HY.out])⟩, HBr⟩
      · have hy := greatB_no c (by omega)
        have HY := Aside0.mk hy
        clear hy
        have k1 : decide ((c.toNat : Int) ≥ 97) = false := decide_eq_false (by omega)
        go_wp2_with fail
        go_roundg g
        case measure => have := HK.out; omega
        case rel => exact ⟨i + 1, by first | rfl | (go_num; done), by omega, ⟨by have := HK.out; omega⟩, ⟨grB_skip HC.out hlt (by rw [← HCc.out, HY.out])⟩, HBr⟩
    · have hin : i = s.size := by omega
      subst hin
      have hl : (s.data.toList.map greatB).length = s.size := by simp
      have hcv := run_convert_bytes_back (P := Tryz.prog) wr 46 9 5 ⟨G, 0, none⟩ cap (s.data.toList.map greatB) Tryz.underlying46 Tryz.underlying5 Tryz.underlying9 (fun j hj => by
        obtain ⟨cs, h1, h2, h3, h4⟩ := HC.out.ex
        have ha : (⟨G, 0, none⟩ : Addr).add j = ⟨G, j, none⟩ := by
          unfold Addr.add
          split
          · rename_i h8; subst h8; rfl
          · simp
        have hj2 : j < s.size := by rw [hl] at hj; exact hj
        rw [ha, gblk_cell h1, h3 j hj2, List.getElem_map, List.getD_eq_getElem?_getD, List.getElem?_eq_getElem (by rw [Array.length_toList]; exact hj2)]; rfl)
      rw [hl] at hcv
      clear hl
      go_wp2_with fail
      go_ret
      exact ⟨rfl, HBr.out⟩
end Go.Proofs.YtknmbalhbecdhaaGreatDoor.Print
end
section
set_option linter.unusedVariables false
set_option linter.unusedSimpArgs false
namespace Go.Proofs.YtknmbalhbecdhaaGreatDoor.Print
open Go.RowKit Go.Proofs.YtknmbalhbecdhaaGreatDoorW.PrintWords Go.Proofs.YtknmbalhbecdhaaGreatDoorW.PrintLast
/-- Signs of names, small letters too. -/
def signS (c : UInt8) : Bool := (line_sign.f ((c.toNat : Nat) : Int) false).getD false
theorem signS_f (c : UInt8) : line_sign.f ((c.toNat : Nat) : Int) false = some (signS c) := by
  unfold signS
  have h : ∃ b, line_sign.f ((c.toNat : Nat) : Int) false = some b := by
    unfold line_sign.f
    repeat' split
    all_goals exact ⟨_, rfl⟩
  obtain ⟨b, hb⟩ := h
  rw [hb]; rfl
/-- How many bytes a name has, of so many at most. -/
def nameEnd (l : List UInt8) (n : Nat) : Nat := ((l.take n).takeWhile signS).length
theorem nameEnd_nil (n : Nat) : nameEnd [] n = 0 := by simp [nameEnd]
theorem nameEnd_zero (l : List UInt8) : nameEnd l 0 = 0 := by simp [nameEnd]
theorem nameEnd_yes (c : UInt8) (t : List UInt8) (n : Nat) (h : signS c = true) : nameEnd (c :: t) (n + 1) = nameEnd t n + 1 := by simp [nameEnd, h]
theorem nameEnd_no (c : UInt8) (t : List UInt8) (n : Nat) (h : signS c = false) : nameEnd (c :: t) (n + 1) = 0 := by simp [nameEnd, h]
def line_reader_name.f (s0_0 : ByteArray) (s0_1 : Int) (s0_2 : Int) : Option (ByteArray × ByteArray × Int × Int) :=
  if s0_2 = 0 ∧ 0 ≤ s0_1 ∧ s0_1 ≤ (s0_0.size : Int) ∧ s0_0.size ≤ 4611686018427387904 then
    (if nameEnd (s0_0.data.toList.drop s0_1.toNat) 60 = 0 then some (⟨#[]⟩, s0_0, s0_1, 5)
     else some (greatS (s0_0.extract s0_1.toNat (s0_1.toNat + nameEnd (s0_0.data.toList.drop s0_1.toNat) 60)), s0_0, ((s0_1.toNat + nameEnd (s0_0.data.toList.drop s0_1.toNat) 60 : Nat) : Int), 0))
  else none
theorem ext_same {s : ByteArray} {b i : Nat} (h : i = b) : greatS (s.extract b i) = ⟨#[]⟩ := by
  subst h
  have : s.extract i i = ⟨#[]⟩ := by
    apply ByteArray.ext
    rw [ByteArray.data_extract, Array.extract_eq_empty_iff.2 (by omega)]
  rw [this]; rfl
theorem name_fin {s : ByteArray} {b i n : Nat} {r1 : ByteArray} {r3 r4 : Int} (hz : n = i - b) (hr : if n = 0 then r1 = ⟨#[]⟩ ∧ r3 = (b : Int) ∧ r4 = 5 else r1 = greatS (s.extract b (b + n)) ∧ r3 = ((b + n : Nat) : Int) ∧ r4 = 0) (hbi : b ≤ i := by omega) :
    (i = b → r1 = ⟨#[]⟩ ∧ r3 = (b : Int) ∧ r4 = 5) ∧ (i ≠ b → r1 = greatS (s.extract b i) ∧ r3 = (i : Int) ∧ r4 = 0) := by
  refine ⟨fun h => ?_, fun h => ?_⟩
  · rw [if_pos (by omega)] at hr; exact hr
  · rw [if_neg (by omega), show b + n = i by omega] at hr; exact hr
set_option maxHeartbeats 8000000 in
set_option maxRecDepth 100000 in
theorem name_walk (g : Nat) (s : ByteArray) (b : Nat) (w0 w : World) (hG : GG w0) (hI : IsS63 w0 w g s b 0) (hB : Below w0.heap.size w0 w) (hb : b ≤ s.size) (hs : s.size ≤ 4611686018427387904) (r1 : ByteArray) (r3 r4 : Int)
    (hr : Aside0 (if nameEnd (s.data.toList.drop b) 60 = 0 then r1 = ⟨#[]⟩ ∧ r3 = (b : Int) ∧ r4 = 5 else r1 = greatS (s.extract b (b + nameEnd (s.data.toList.drop b) 60)) ∧ r3 = ((b + nameEnd (s.data.toList.drop b) 60 : Nat) : Int) ∧ r4 = 0)) :
    Calls Tryz.prog 32 #[.pointer (some ⟨g, 0, none⟩)] w fun e w' => e = .returned (.string r1) ∧ IsS63 w0 w' g s r3 r4 ∧ Below w0.heap.size w0 w' ∧ KeepBut w w' g none := by
  have HI := Aside0.mk hI
  have HB := Aside0.mk hB
  have HGG := Aside0.mk hG
  have hge := hI.ge
  have hcz0 := cellS63_0 hI.1
  have hcz1 := cellS63_1 hI.1
  have hcz2 := cellS63_2 hI.1
  have hfz1 := blk_frozen hI.1 1
  clear hI hB hG
  go_enter Tryz.func32, Tryz.ntmps32
  go_wp2_with fail
  clear hcz0 hcz1 hcz2 hfz1
  go_loopg [38] 60 (fun g2 v38 wr => ∃ i : Nat, b ≤ i ∧ i ≤ s.size ∧ i - b ≤ 60 ∧ Aside0 (60 ≤ (i - b) + g2) ∧ Aside0 (IsS63 w0 wr g s i 0) ∧ Aside0 (Below w0.heap.size w0 wr) ∧ Aside0 (KeepBut w wr g none) ∧ Aside0 (nameEnd (s.data.toList.drop b) 60 = (i - b) + nameEnd (s.data.toList.drop i) (60 - (i - b))))
  case atStart => exact ⟨b, by omega, hb, by omega, ⟨by omega⟩, HI, HB, ⟨KeepBut.refl _ _ _⟩, ⟨by simp⟩⟩
  case round =>
    obtain ⟨i, hbi, his, hi60, HK, HIr, HBr, HKr, HE⟩ := hrel
    have hcz0 := cellS63_0 HIr.out.1
    have hcz1 := cellS63_1 HIr.out.1
    have hcz2 := cellS63_2 HIr.out.1
    have hfz1 := blk_frozen HIr.out.1 1
    have HL := Aside0.mk HIr.out.lt
    have hsn := signS_f
    have HSN := Aside0.mk hsn
    clear hsn
    have hdb : IntKind.i64.wrap ((i : Int) - (b : Int)) = (i : Int) - (b : Int) := IntWalk.i64_in _ (by omega)
    clear hdb
    by_cases hlt : i < s.size
    · have d1 : decide (i < s.size) = true := decide_eq_true hlt
      by_cases h60 : i - b < 60
      · obtain ⟨c, hc⟩ : ∃ c : UInt8, s[i] = c := ⟨_, rfl⟩
        have hcl := HSN.out c
        have hdr : s.data.toList.drop i = c :: s.data.toList.drop (i + 1) := by
          rw [List.drop_eq_getElem_cons (by simpa using hlt)]; rw [← hc]; rfl
        obtain ⟨r, hr⟩ : ∃ r, r = signS c := ⟨_, rfl⟩
        rw [← hr] at hcl
        have HC := Aside0.mk hcl
        have HD := Aside0.mk (And.intro hdr hr)
        clear hcl hdr
        have d2 : decide ((i : Int) - (b : Int) < 60) = true := decide_eq_true (by omega)
        have d3 : IntKind.i64.wrap ((i : Int) - (b : Int)) = (i : Int) - (b : Int) := IntWalk.i64_in _ (by omega)
        clear hr
        cases r with
        | true =>
          cases gk with
          | zero => exfalso; have := HK.out; omega
          | succ g2 =>
          have HE2 : Aside0 (nameEnd (s.data.toList.drop b) 60 = (i + 1 - b) + nameEnd (s.data.toList.drop (i + 1)) (60 - (i + 1 - b))) := ⟨by
            have e := HE.out
            have e2 : 60 - (i - b) = (60 - (i + 1 - b)) + 1 := by omega
            rw [HD.out.1, e2, nameEnd_yes c _ _ HD.out.2.symm] at e
            rw [e]; omega⟩
          go_wp2_with fail
          go_quiet ((go_at_call 29; exact Calls.quiet_of ((line_sign.calls _ _ true _ (HGG.out.below (pw_below_drewN HBr.out _)) HC.out).mono fun e w' h => ⟨h.1, h.2.out⟩)))
          go_wp2_with fail
          go_roundg g2
          case measure => have := HK.out; omega
          case rel => exact ⟨i + 1, by omega, by omega, by omega, ⟨by have := HK.out; omega⟩, ⟨by first | exact (HIr.out.drewN _).set_1 _ | (have h9 := (HIr.out.drewN 0).set_1 ((i : Int) + 1); exact h9)⟩, ⟨below_set (pw_below_drewN HBr.out _) hge⟩, ⟨(keep_drewN HKr.out _).set_ _ _⟩, HE2⟩
        | false =>
          have HZ : Aside0 (nameEnd (s.data.toList.drop b) 60 = i - b) := ⟨by
            have e := HE.out
            have e2 : 60 - (i - b) = (60 - (i + 1 - b)) + 1 := by omega
            rw [HD.out.1, e2, nameEnd_no c _ _ HD.out.2.symm] at e
            omega⟩
          go_wp2_with fail
          go_quiet ((go_at_call 29; exact Calls.quiet_of ((line_sign.calls _ _ false _ (HGG.out.below (pw_below_drewN HBr.out _)) HC.out).mono fun e w' h => ⟨h.1, h.2.out⟩)))
          have HX : Aside0 ((s.extract b i).size ≤ 9223372036854775807) := ⟨by rw [ByteArray.size_extract]; omega⟩
          have HR := Aside0.mk (name_fin HZ.out hr.out)
          by_cases e0 : i = b
          · obtain ⟨rfl, rfl, rfl⟩ := HR.out.1 e0
            have HE0 := Aside0.mk e0
            have hii : (i : Int) = (b : Int) := by omega
            have hib : ((i : Int) == (b : Int)) = true := beq_iff_eq.2 hii
            clear hii e0
            go_wp2_with (go_at_call 35; refine (line_reader_wrong.calls g s i 0 5 i s i 5 w0 _ HGG.out (HIr.out.drewN _) (pw_below_drewN HBr.out _) rfl).mono ?_; rintro e w2 ⟨rfl, hI2, hB2, hK2⟩)
            have HI2 := Aside0.mk hI2
            have HB2 := Aside0.mk hB2
            have HK2 := Aside0.mk ((keep_drewN HKr.out _).trans hK2 (.inl rfl))
            clear hI2 hB2 hK2 hcz0 hcz1 hcz2 hfz1
            have HL := Aside0.mk HI2.out.lt
            have hcz0 := cellS63_0 HI2.out.1
            have hcz1 := cellS63_1 HI2.out.1
            have hcz2 := cellS63_2 HI2.out.1
            go_wp2_with fail
            go_region_held3 (fun w' => w'.cell? ⟨g, 0, none⟩ = some (.string s) ∧ w'.cell? ⟨g, 1, none⟩ = some (.int .i64 i)) (first | go_keep | exact ⟨(hB3.cell (p := ⟨g, 0, none⟩) HL.out).trans hcz0, (hB3.cell (p := ⟨g, 1, none⟩) HL.out).trans hcz1⟩) (first | (go_at_call 49; refine (great_walk (s.extract b i) _ HX.out).mono ?_; rintro e w3 ⟨rfl, hB3⟩))
            have HB3 := Aside0.mk hB3
            clear hB3
            go_wp2_with fail
            go_ret
            refine ⟨by rw [ext_same HE0.out]; rfl, ?_, ?_, ?_⟩
            · rw [← HE0.out]; exact (HI2.out.drewN _).below HB3.out
            · exact (pw_below_drewN HB2.out _).trans (HB3.out.mono (pw_below_drewN HB2.out _).size)
            · exact (keep_drewN HK2.out _).trans (KeepBut.of_below HB3.out g none) (.inl rfl)
          · obtain ⟨rfl, rfl, rfl⟩ := HR.out.2 e0
            have hib : ((i : Int) == (b : Int)) = false := beq_eq_false_iff_ne.2 (by omega)
            go_wp2_with fail
            go_region_held3 (fun w' => w'.cell? ⟨g, 0, none⟩ = some (.string s) ∧ w'.cell? ⟨g, 1, none⟩ = some (.int .i64 i)) (first | go_keep | exact ⟨(hB3.cell (p := ⟨g, 0, none⟩) HL.out).trans hcz0, (hB3.cell (p := ⟨g, 1, none⟩) HL.out).trans hcz1⟩) (first | (go_at_call 49; refine (great_walk (s.extract b i) _ HX.out).mono ?_; rintro e w3 ⟨rfl, hB3⟩))
            have HB3 := Aside0.mk hB3
            clear hB3
            go_wp2_with fail
            go_ret
            exact ⟨rfl, (HIr.out.drewN _).below HB3.out, (pw_below_drewN HBr.out _).trans (HB3.out.mono (pw_below_drewN HBr.out _).size), (keep_drewN HKr.out _).trans (KeepBut.of_below HB3.out g none) (.inl rfl)⟩
      · have HZ : Aside0 (nameEnd (s.data.toList.drop b) 60 = i - b) := ⟨by
          have e := HE.out
          have e2 : 60 - (i - b) = 0 := by omega
          rw [e2, nameEnd_zero (s.data.toList.drop i)] at e
          omega⟩
        have d2 : decide ((i : Int) - (b : Int) < 60) = false := decide_eq_false (by omega)
        have d3 : IntKind.i64.wrap ((i : Int) - (b : Int)) = (i : Int) - (b : Int) := IntWalk.i64_in _ (by omega)
        go_wp2_with fail
        go_quiet (fail)
        have HX : Aside0 ((s.extract b i).size ≤ 9223372036854775807) := ⟨by rw [ByteArray.size_extract]; omega⟩
        have HR := Aside0.mk (name_fin HZ.out hr.out)
        by_cases e0 : i = b
        · obtain ⟨rfl, rfl, rfl⟩ := HR.out.1 e0
          have HE0 := Aside0.mk e0
          have hii : (i : Int) = (b : Int) := by omega
          have hib : ((i : Int) == (b : Int)) = true := beq_iff_eq.2 hii
          clear hii e0
          go_wp2_with (go_at_call 35; refine (line_reader_wrong.calls g s i 0 5 i s i 5 w0 _ HGG.out (HIr.out.drewN _) (pw_below_drewN HBr.out _) rfl).mono ?_; rintro e w2 ⟨rfl, hI2, hB2, hK2⟩)
          have HI2 := Aside0.mk hI2
          have HB2 := Aside0.mk hB2
          have HK2 := Aside0.mk ((keep_drewN HKr.out _).trans hK2 (.inl rfl))
          clear hI2 hB2 hK2 hcz0 hcz1 hcz2 hfz1
          have HL := Aside0.mk HI2.out.lt
          have hcz0 := cellS63_0 HI2.out.1
          have hcz1 := cellS63_1 HI2.out.1
          have hcz2 := cellS63_2 HI2.out.1
          go_wp2_with fail
          go_region_held3 (fun w' => w'.cell? ⟨g, 0, none⟩ = some (.string s) ∧ w'.cell? ⟨g, 1, none⟩ = some (.int .i64 i)) (first | go_keep | exact ⟨(hB3.cell (p := ⟨g, 0, none⟩) HL.out).trans hcz0, (hB3.cell (p := ⟨g, 1, none⟩) HL.out).trans hcz1⟩) (first | (go_at_call 49; refine (great_walk (s.extract b i) _ HX.out).mono ?_; rintro e w3 ⟨rfl, hB3⟩))
          have HB3 := Aside0.mk hB3
          clear hB3
          go_wp2_with fail
          go_ret
          refine ⟨by rw [ext_same HE0.out]; rfl, ?_, ?_, ?_⟩
          · rw [← HE0.out]; exact (HI2.out.drewN _).below HB3.out
          · exact (pw_below_drewN HB2.out _).trans (HB3.out.mono (pw_below_drewN HB2.out _).size)
          · exact (keep_drewN HK2.out _).trans (KeepBut.of_below HB3.out g none) (.inl rfl)
        · obtain ⟨rfl, rfl, rfl⟩ := HR.out.2 e0
          have hib : ((i : Int) == (b : Int)) = false := beq_eq_false_iff_ne.2 (by omega)
          go_wp2_with fail
          go_region_held3 (fun w' => w'.cell? ⟨g, 0, none⟩ = some (.string s) ∧ w'.cell? ⟨g, 1, none⟩ = some (.int .i64 i)) (first | go_keep | exact ⟨(hB3.cell (p := ⟨g, 0, none⟩) HL.out).trans hcz0, (hB3.cell (p := ⟨g, 1, none⟩) HL.out).trans hcz1⟩) (first | (go_at_call 49; refine (great_walk (s.extract b i) _ HX.out).mono ?_; rintro e w3 ⟨rfl, hB3⟩))
          have HB3 := Aside0.mk hB3
          clear hB3
          go_wp2_with fail
          go_ret
          exact ⟨rfl, (HIr.out.drewN _).below HB3.out, (pw_below_drewN HBr.out _).trans (HB3.out.mono (pw_below_drewN HBr.out _).size), (keep_drewN HKr.out _).trans (KeepBut.of_below HB3.out g none) (.inl rfl)⟩
    · have HZ : Aside0 (nameEnd (s.data.toList.drop b) 60 = i - b) := ⟨by
        have e := HE.out
        rw [show s.data.toList.drop i = [] from List.drop_eq_nil_of_le (by simp; omega), nameEnd_nil] at e
        omega⟩
      have d1 : decide (i < s.size) = false := decide_eq_false hlt
      go_wp2_with fail
      go_quiet (fail)
      have HX : Aside0 ((s.extract b i).size ≤ 9223372036854775807) := ⟨by rw [ByteArray.size_extract]; omega⟩
      have HR := Aside0.mk (name_fin HZ.out hr.out)
      by_cases e0 : i = b
      · obtain ⟨rfl, rfl, rfl⟩ := HR.out.1 e0
        have HE0 := Aside0.mk e0
        have hii : (i : Int) = (b : Int) := by omega
        have hib : ((i : Int) == (b : Int)) = true := beq_iff_eq.2 hii
        clear hii e0
        go_wp2_with (go_at_call 35; refine (line_reader_wrong.calls g s i 0 5 i s i 5 w0 _ HGG.out (HIr.out.drewN _) (pw_below_drewN HBr.out _) rfl).mono ?_; rintro e w2 ⟨rfl, hI2, hB2, hK2⟩)
        have HI2 := Aside0.mk hI2
        have HB2 := Aside0.mk hB2
        have HK2 := Aside0.mk ((keep_drewN HKr.out _).trans hK2 (.inl rfl))
        clear hI2 hB2 hK2 hcz0 hcz1 hcz2 hfz1
        have HL := Aside0.mk HI2.out.lt
        have hcz0 := cellS63_0 HI2.out.1
        have hcz1 := cellS63_1 HI2.out.1
        have hcz2 := cellS63_2 HI2.out.1
        go_wp2_with fail
        go_region_held3 (fun w' => w'.cell? ⟨g, 0, none⟩ = some (.string s) ∧ w'.cell? ⟨g, 1, none⟩ = some (.int .i64 i)) (first | go_keep | exact ⟨(hB3.cell (p := ⟨g, 0, none⟩) HL.out).trans hcz0, (hB3.cell (p := ⟨g, 1, none⟩) HL.out).trans hcz1⟩) (first | (go_at_call 49; refine (great_walk (s.extract b i) _ HX.out).mono ?_; rintro e w3 ⟨rfl, hB3⟩))
        have HB3 := Aside0.mk hB3
        clear hB3
        go_wp2_with fail
        go_ret
        refine ⟨by rw [ext_same HE0.out]; rfl, ?_, ?_, ?_⟩
        · rw [← HE0.out]; exact (HI2.out.drewN _).below HB3.out
        · exact (pw_below_drewN HB2.out _).trans (HB3.out.mono (pw_below_drewN HB2.out _).size)
        · exact (keep_drewN HK2.out _).trans (KeepBut.of_below HB3.out g none) (.inl rfl)
      · obtain ⟨rfl, rfl, rfl⟩ := HR.out.2 e0
        have hib : ((i : Int) == (b : Int)) = false := beq_eq_false_iff_ne.2 (by omega)
        go_wp2_with fail
        go_region_held3 (fun w' => w'.cell? ⟨g, 0, none⟩ = some (.string s) ∧ w'.cell? ⟨g, 1, none⟩ = some (.int .i64 i)) (first | go_keep | exact ⟨(hB3.cell (p := ⟨g, 0, none⟩) HL.out).trans hcz0, (hB3.cell (p := ⟨g, 1, none⟩) HL.out).trans hcz1⟩) (first | (go_at_call 49; refine (great_walk (s.extract b i) _ HX.out).mono ?_; rintro e w3 ⟨rfl, hB3⟩))
        have HB3 := Aside0.mk hB3
        clear hB3
        go_wp2_with fail
        go_ret
        exact ⟨rfl, (HIr.out.drewN _).below HB3.out, (pw_below_drewN HBr.out _).trans (HB3.out.mono (pw_below_drewN HBr.out _).size), (keep_drewN HKr.out _).trans (KeepBut.of_below HB3.out g none) (.inl rfl)⟩
theorem line_reader_name.calls (g : Nat) (s0_0 : ByteArray) (s0_1 : Int) (s0_2 : Int) (r1 : ByteArray) (r2 : ByteArray) (r3 : Int) (r4 : Int) (w0 w : World) (hG : GG w0) (hI : IsS63 w0 w g s0_0 s0_1 s0_2) (hB : Below w0.heap.size w0 w) (h : line_reader_name.f s0_0 s0_1 s0_2 = some (r1, r2, r3, r4)) :
    Calls Tryz.prog 32 #[.pointer (some ⟨g, 0, none⟩)] w fun e w' => e = .returned (.string r1) ∧ IsS63 w0 w' g r2 r3 r4 ∧ Below w0.heap.size w0 w' ∧ KeepBut w w' g none := by
  unfold line_reader_name.f at h
  by_cases hc : s0_2 = 0 ∧ 0 ≤ s0_1 ∧ s0_1 ≤ (s0_0.size : Int) ∧ s0_0.size ≤ 4611686018427387904
  · rw [if_pos hc] at h
    obtain ⟨rfl, h0, h1, h2⟩ := hc
    obtain ⟨b, rfl⟩ : ∃ b : Nat, s0_1 = (b : Int) := ⟨s0_1.toNat, by omega⟩
    rw [Int.toNat_natCast] at h
    by_cases hn : nameEnd (s0_0.data.toList.drop b) 60 = 0
    · rw [if_pos hn] at h
      simp only [Option.some.injEq, Prod.mk.injEq] at h
      obtain ⟨rfl, rfl, rfl, rfl⟩ := h
      exact name_walk g s0_0 b w0 w hG hI hB (by omega) h2 _ _ _ ⟨by rw [if_pos hn]; exact ⟨rfl, rfl, rfl⟩⟩
    · rw [if_neg hn] at h
      simp only [Option.some.injEq, Prod.mk.injEq] at h
      obtain ⟨rfl, rfl, rfl, rfl⟩ := h
      exact name_walk g s0_0 b w0 w hG hI hB (by omega) h2 _ _ _ ⟨by rw [if_neg hn]; exact ⟨rfl, rfl, rfl⟩⟩
  · rw [if_neg hc] at h; cases h
end Go.Proofs.YtknmbalhbecdhaaGreatDoor.Print
end
section
set_option linter.unusedVariables false
set_option linter.unusedSimpArgs false
namespace Go.Proofs.YtknmbalhbecdhaaGreatDoor.Print
open Go.RowKit Go.Proofs.YtknmbalhbecdhaaGreatDoorW.PrintWords Go.Proofs.YtknmbalhbecdhaaGreatDoorW.PrintLast
/-- Bytes of a value that isn't quoted. -/
def plainV (c : UInt8) : Bool := !(c == 58 || c == 59 || c == 44 || c == 34)
/-- How long a value is that begins here; none: its quote isn't closed. -/
def valEnd (l : List UInt8) : Option Nat := if l.head? = some 34 then (if Lib.indexByte (l.drop 1) 34 < 0 then none else some ((Lib.indexByte (l.drop 1) 34).toNat + 2)) else some ((l.takeWhile plainV).length)
def line_reader_value.f (k : Nat) (s0_0 : ByteArray) (s0_1 : Int) (s0_2 : Int) : Option (ByteArray × ByteArray × Int × Int) :=
  if s0_2 = 0 ∧ 0 ≤ s0_1 ∧ s0_1 ≤ (s0_0.size : Int) ∧ s0_0.size ≤ 4611686018427387904 then
    (match valEnd (s0_0.data.toList.drop s0_1.toNat) with
     | none => some (⟨#[]⟩, s0_0, (s0_0.size : Int), 5)
     | some n => (escape_Value.f k (s0_0.extract s0_1.toNat (s0_1.toNat + n))).bind fun p => some (p.1, s0_0, if p.2 = 0 then ((s0_1.toNat + n : Nat) : Int) else s0_1, if p.2 = 0 then 0 else 7))
  else none
theorem plain_idx (c : UInt8) : Lib.indexByte [58, 59, 44, 34] c < 0 ↔ plainV c = true := by
  have h : ∀ c : Fin 256, Lib.indexByte [58, 59, 44, 34] (UInt8.ofFin c) < 0 ↔ plainV (UInt8.ofFin c) = true := by decide +kernel
  exact h c.toFin
theorem idx_lt (l : List UInt8) (c : UInt8) (h : 0 ≤ Lib.indexByte l c) : Lib.indexByte l c < l.length := by
  obtain ⟨o, ho⟩ : ∃ o : Nat, Lib.indexByte l c = o := ⟨(Lib.indexByte l c).toNat, by omega⟩
  have := (List.getElem?_eq_some_iff.1 (Lib.indexByte_some ho).1).1
  omega
theorem peek_at (s : ByteArray) (b : Nat) (c : UInt8) (hb : b < s.size) (hc : s[b] = c) : line_reader_peek.f s b 0 = some (((c.toNat : Nat) : Int), s, (b : Int), 0) := by
  unfold line_reader_peek.f
  rw [if_pos rfl, if_neg (show ¬ (b : Int) ≥ (s.size : Int) by omega), if_pos (show (0 : Int) ≤ (b : Int) by omega), if_pos (show (b : Int) < (s.size : Int) by omega)]
  have h := bt_at s (b : Int) (by simpa using hb)
  rw [← h]
  simp [hc]
theorem peek_end (s : ByteArray) (b : Nat) (hb : s.size ≤ b) : line_reader_peek.f s b 0 = some (0, s, (b : Int), 0) := by
  unfold line_reader_peek.f
  rw [if_pos rfl, if_pos (show (b : Int) ≥ (s.size : Int) by omega)]
set_option maxHeartbeats 8000000 in
set_option maxRecDepth 100000 in
theorem value_open (g : Nat) (s : ByteArray) (b : Nat) (w0 w : World) (hG : GG w0) (hI : IsS63 w0 w g s b 0) (hB : Below w0.heap.size w0 w) (hs : s.size ≤ 4611686018427387904) (hb : b < s.size) (hc : s[b] = 34) (hx : Lib.indexByte (s.extract (b + 1) s.size).data.toList 34 < 0) (r1 : ByteArray) (r3 r4 : Int) (hr : r1 = ⟨#[]⟩ ∧ r3 = (s.size : Int) ∧ r4 = 5) :
    Calls Tryz.prog 50 #[.pointer (some ⟨g, 0, none⟩)] w fun e w' => e = .returned (.string r1) ∧ IsS63 w0 w' g s r3 r4 ∧ Below w0.heap.size w0 w' ∧ KeepBut w w' g none := by
  obtain ⟨rfl, rfl, rfl⟩ := hr
  have hpk : line_reader_peek.f s b 0 = some (34, s, (b : Int), 0) := peek_at s b 34 hb hc
  obtain ⟨x, hxe⟩ : ∃ x, x = Lib.indexByte (s.extract (b + 1) s.size).data.toList 34 := ⟨_, rfl⟩
  have HX := Aside0.mk (fun W => (show Calls Tryz.prog 56 #[.string (s.extract (b + 1) s.size), .int .u8 34] W fun e w' => e = .returned (.int .i64 x) ∧ w' = W from by rw [hxe]; exact Tryz.strings_IndexByte _ 34 W))
  rw [← hxe] at hx
  clear hxe hc
  have HI := Aside0.mk hI
  have HB := Aside0.mk hB
  have HGG := Aside0.mk hG
  have hge := hI.ge
  have hcz0 := cellS63_0 hI.1
  have hcz1 := cellS63_1 hI.1
  have hcz2 := cellS63_2 hI.1
  clear hI hB hG
  go_enter Tryz.func50, Tryz.ntmps50
  go_wp2_with (go_at_call 33; refine (line_reader_peek.calls g s b 0 34 s b 0 w0 _ HGG.out HI.out HB.out hpk).mono ?_; rintro e w1 ⟨rfl, hI1, hB1, hK1⟩; have HI1 := Aside0.mk hI1; have HB1 := Aside0.mk hB1; have HK1 := Aside0.mk hK1; have hcz0 := cellS63_0 hI1.1; have hcz1 := cellS63_1 hI1.1; have hcz2 := cellS63_2 hI1.1; have hfz1 := blk_frozen hI1.1 1; clear hI1 hB1 hK1 hpk)
  go_wp2_with (go_at_call 56; refine (HX.out _).mono ?_; rintro e w' ⟨rfl, rfl⟩)
  go_wp2_with (go_at_call 35; refine (line_reader_wrong.calls g s b 0 5 s.size s s.size 5 w0 _ HGG.out HI1.out HB1.out rfl).mono ?_; rintro e w2 ⟨rfl, hI2, hB2, hK2⟩; have HI2 := Aside0.mk hI2; have HB2 := Aside0.mk hB2; have HK2 := Aside0.mk hK2; clear hI2 hB2 hK2)
  go_ret
  exact ⟨rfl, HI2.out, HB2.out, HK1.out.trans HK2.out (.inl rfl)⟩
set_option maxHeartbeats 8000000 in
set_option maxRecDepth 100000 in
theorem value_quo (g : Nat) (s : ByteArray) (b : Nat) (w0 w : World) (hG : GG w0) (hI : IsS63 w0 w g s b 0) (hB : Below w0.heap.size w0 w) (hs : s.size ≤ 4611686018427387904) (hb : b < s.size) (hc : s[b] = 34) (n : Nat) (hx : Lib.indexByte (s.extract (b + 1) s.size).data.toList 34 = n) (hn : b + n + 2 ≤ s.size) (k : Nat) (r1 : ByteArray) (er : Int) (hv : Aside0 (escape_Value.f k (s.extract b (b + n + 2)) = some (r1, er))) (r3 r4 : Int) (hr : Aside0 ((er = 0 → r3 = ((b + n + 2 : Nat) : Int) ∧ r4 = 0) ∧ (er ≠ 0 → r3 = (b : Int) ∧ r4 = 7))) :
    Calls Tryz.prog 50 #[.pointer (some ⟨g, 0, none⟩)] w fun e w' => e = .returned (.string r1) ∧ IsS63 w0 w' g s r3 r4 ∧ Below w0.heap.size w0 w' ∧ KeepBut w w' g none := by
  have hpk : line_reader_peek.f s b 0 = some (34, s, (b : Int), 0) := peek_at s b 34 hb hc
  have HX := Aside0.mk (fun W => (show Calls Tryz.prog 56 #[.string (s.extract (b + 1) s.size), .int .u8 34] W fun e w' => e = .returned (.int .i64 (n : Int)) ∧ w' = W from by rw [← hx]; exact Tryz.strings_IndexByte _ 34 W))
  clear hx hc
  have HI := Aside0.mk hI
  have HB := Aside0.mk hB
  have HGG := Aside0.mk hG
  have hge := hI.ge
  have hcz0 := cellS63_0 hI.1
  have hcz1 := cellS63_1 hI.1
  have hcz2 := cellS63_2 hI.1
  clear hI hB hG
  go_enter Tryz.func50, Tryz.ntmps50
  go_wp2_with (go_at_call 33; refine (line_reader_peek.calls g s b 0 34 s b 0 w0 _ HGG.out HI.out HB.out hpk).mono ?_; rintro e w1 ⟨rfl, hI1, hB1, hK1⟩; have HI1 := Aside0.mk hI1; have HB1 := Aside0.mk hB1; have HK1 := Aside0.mk hK1; have hcz0 := cellS63_0 hI1.1; have hcz1 := cellS63_1 hI1.1; have hcz2 := cellS63_2 hI1.1; have hfz1 := blk_frozen hI1.1 1; clear hI1 hB1 hK1 hpk)
  go_wp2_with (go_at_call 56; refine (HX.out _).mono ?_; rintro e w' ⟨rfl, rfl⟩)
  have HI3 := Aside0.mk (HI1.out.set_1 ((b : Int) + n + 2))
  have HB3 : Aside0 (Below w0.heap.size w0 (w'.setCell ⟨g, 1, none⟩ (.int .i64 ((b : Int) + n + 2)))) := ⟨below_set HB1.out hge⟩
  have HK3 : Aside0 (KeepBut w (w'.setCell ⟨g, 1, none⟩ (.int .i64 ((b : Int) + n + 2))) g none) := ⟨HK1.out.set_ 1 _⟩
  obtain ⟨i, hi⟩ : ∃ i : Nat, i = b + n + 2 := ⟨_, rfl⟩
  have hii : (b : Int) + (n : Int) + 2 = (i : Int) := by omega
  have his : i ≤ s.size := by omega
  have hbi : b ≤ i := by omega
  rw [← hi] at hv hr
  have HV := hv
  have HF := hr
  rw [hii] at HI3 HB3 HK3 ⊢
  clear hi hii hv hr hcz0 hcz1 hcz2 hfz1 hn
  have hcz0 := cellS63_0 HI3.out.1
  have hcz1 := cellS63_1 HI3.out.1
  have hcz2 := cellS63_2 HI3.out.1
  have hfz1 := blk_frozen HI3.out.1 1
  obtain ⟨w3, hw3⟩ : ∃ w3, w3 = w'.setCell ⟨g, 1, none⟩ (.int .i64 i) := ⟨_, rfl⟩
  rw [← hw3] at HI3 HB3 HK3 hcz0 hcz1 hcz2 hfz1 ⊢
  clear hw3
  have HL := Aside0.mk HI3.out.lt
  go_wp2_with fail
  go_region_held3 (fun w' => w'.cell? ⟨g, 0, none⟩ = some (.string s) ∧ w'.cell? ⟨g, 1, none⟩ = some (.int .i64 i)) (first | go_keep | exact ⟨(hB3.cell (p := ⟨g, 0, none⟩) HL.out).trans hcz0, (hB3.cell (p := ⟨g, 1, none⟩) HL.out).trans hcz1⟩) (first | (go_at_call 57; refine (escape_Value.calls k (s.extract b i) r1 er _ (HGG.out.below (pw_below_drewN HB3.out _)) HV.out).mono ?_; rintro e w4 ⟨rfl, hB3⟩))
  have HB4 := Aside0.mk hB3
  clear hB3
  by_cases her : er = 0
  · obtain ⟨rfl, rfl⟩ := HF.out.1 her
    subst her
    go_wp2_with fail
    go_ret
    exact ⟨rfl, (HI3.out.drewN _).below HB4.out, (pw_below_drewN HB3.out _).trans (HB4.out.mono (pw_below_drewN HB3.out _).size), (keep_drewN HK3.out _).trans (KeepBut.of_below HB4.out g none) (.inl rfl)⟩
  · obtain ⟨rfl, rfl⟩ := HF.out.2 her
    have her1 : (er != 0) = true := bne_iff_ne.2 her
    have her2 : (er == 0) = false := beq_eq_false_iff_ne.2 her
    clear her
    have HI5 := Aside0.mk ((HI3.out.drewN _).below HB4.out)
    have HB5 := Aside0.mk ((pw_below_drewN HB3.out _).trans (HB4.out.mono (pw_below_drewN HB3.out _).size))
    have HK5 := Aside0.mk ((keep_drewN HK3.out _).trans (KeepBut.of_below HB4.out g none) (.inl rfl))
    clear hcz0 hcz1 hcz2 hfz1
    go_wp2_with (go_at_call 35; refine (line_reader_wrong.calls g s i 0 7 b s b 7 w0 _ HGG.out HI5.out HB5.out rfl).mono ?_; rintro e w6 ⟨rfl, hI6, hB6, hK6⟩; have HI6 := Aside0.mk hI6; have HB6 := Aside0.mk hB6; have HK6 := Aside0.mk hK6; clear hI6 hB6 hK6)
    go_ret
    exact ⟨rfl, HI6.out, HB6.out, HK5.out.trans HK6.out (.inl rfl)⟩
set_option maxHeartbeats 8000000 in
set_option maxRecDepth 100000 in
theorem value_plain (g : Nat) (s : ByteArray) (b : Nat) (w0 w : World) (hG : GG w0) (hI : IsS63 w0 w g s b 0) (hB : Below w0.heap.size w0 w) (hs : s.size ≤ 4611686018427387904) (hb : b ≤ s.size) (hc : ∀ h : b < s.size, s[b] ≠ 34) (n : Nat) (hn : n = ((s.data.toList.drop b).takeWhile plainV).length) (k : Nat) (r1 : ByteArray) (er : Int) (hv : Aside0 (escape_Value.f k (s.extract b (b + n)) = some (r1, er))) (r3 r4 : Int) (hr : Aside0 ((er = 0 → r3 = ((b + n : Nat) : Int) ∧ r4 = 0) ∧ (er ≠ 0 → r3 = (b : Int) ∧ r4 = 7))) :
    Calls Tryz.prog 50 #[.pointer (some ⟨g, 0, none⟩)] w fun e w' => e = .returned (.string r1) ∧ IsS63 w0 w' g s r3 r4 ∧ Below w0.heap.size w0 w' ∧ KeepBut w w' g none := by
  obtain ⟨pk, hpk, hne⟩ : ∃ pk : Int, line_reader_peek.f s b 0 = some (pk, s, (b : Int), 0) ∧ pk ≠ 34 := by
    by_cases h : b < s.size
    · refine ⟨_, peek_at s b _ h rfl, fun e => hc h ?_⟩
      apply UInt8.toNat_inj.1
      show s[b].toNat = 34
      exact Int.ofNat.inj e
    · exact ⟨0, peek_end s b (by omega), by decide⟩
  have hn1 : (pk == 34) = false := beq_eq_false_iff_ne.2 hne
  have hbn : b + n ≤ s.size := by
    have := (List.takeWhile_sublist plainV (l := s.data.toList.drop b)).length_le
    rw [List.length_drop] at this
    have e : s.data.toList.length = s.size := by simp
    omega
  have HN := Aside0.mk hn
  have HV := hv
  have HF := hr
  have HBN := Aside0.mk hbn
  clear hne hc hn hv hr hbn
  have HI := Aside0.mk hI
  have HB := Aside0.mk hB
  have HGG := Aside0.mk hG
  have hge := hI.ge
  have hcz0 := cellS63_0 hI.1
  have hcz1 := cellS63_1 hI.1
  have hcz2 := cellS63_2 hI.1
  clear hI hB hG
  go_enter Tryz.func50, Tryz.ntmps50
  go_wp2_with (go_at_call 33; refine (line_reader_peek.calls g s b 0 pk s b 0 w0 _ HGG.out HI.out HB.out hpk).mono ?_; rintro e w1 ⟨rfl, hI1, hB1, hK1⟩; have HI1 := Aside0.mk hI1; have HB1 := Aside0.mk hB1; have HK1 := Aside0.mk hK1; have hcz0 := cellS63_0 hI1.1; have hcz1 := cellS63_1 hI1.1; have hcz2 := cellS63_2 hI1.1; have hfz1 := blk_frozen hI1.1 1; clear hI1 hB1 hK1 hpk)
  clear hcz0 hcz1 hcz2 hfz1
  go_loopg [60] s.size (fun g2 v60 wr => ∃ i : Nat, b ≤ i ∧ i ≤ s.size ∧ Aside0 (s.size ≤ i + g2) ∧ Aside0 (IsS63 w0 wr g s i 0) ∧ Aside0 (Below w0.heap.size w0 wr) ∧ Aside0 (KeepBut w wr g none) ∧ Aside0 (b + n = i + ((s.data.toList.drop i).takeWhile plainV).length))
  case atStart => exact ⟨b, by omega, hb, ⟨by omega⟩, HI1, HB1, HK1, ⟨by rw [HN.out]⟩⟩
  case round =>
    obtain ⟨i, hbi, his, HK, HIr, HBr, HKr, HE⟩ := hrel
    have HL := Aside0.mk HIr.out.lt
    have hcz0 := cellS63_0 HIr.out.1
    have hcz1 := cellS63_1 HIr.out.1
    have hcz2 := cellS63_2 HIr.out.1
    have hfz1 := blk_frozen HIr.out.1 1
    by_cases hlt : i < s.size
    · have d1 : decide (i < s.size) = true := decide_eq_true hlt
      obtain ⟨c, hc⟩ : ∃ c : UInt8, s[i] = c := ⟨_, rfl⟩
      have hdr : s.data.toList.drop i = c :: s.data.toList.drop (i + 1) := by
        rw [List.drop_eq_getElem_cons (by simpa using hlt)]; rw [← hc]; rfl
      have HD := Aside0.mk hdr
      obtain ⟨x, hx⟩ : ∃ x, x = Lib.indexByte [58, 59, 44, 34] c := ⟨_, rfl⟩
      have HX : Aside0 (∀ W, Calls Tryz.prog 56 #[.string ⟨#[58, 59, 44, 34]⟩, .int .u8 ((c.toNat : Nat) : Int)] W fun e w' => e = .returned (.int .i64 x) ∧ w' = W) := ⟨fun W => by
        have h := Tryz.strings_IndexByte ⟨#[58, 59, 44, 34]⟩ ((c.toNat : Nat) : Int) W
        have e1 : ((c.toNat : Nat) : Int).toNat.toUInt8 = c := by simp
        rw [e1] at h
        rw [hx]; exact h⟩
      have hpl := plain_idx c
      rw [← hx] at hpl
      clear hx hdr
      by_cases hp : plainV c = true
      · have d2 : decide (x < 0) = true := decide_eq_true (hpl.2 hp)
        have HP := Aside0.mk hp
        clear hpl hp
        cases gk with
        | zero => exfalso; have := HK.out; omega
        | succ g2 =>
        have HE2 : Aside0 (b + n = (i + 1) + ((s.data.toList.drop (i + 1)).takeWhile plainV).length) := ⟨by
          have e := HE.out
          rw [HD.out, List.takeWhile_cons, if_pos HP.out, List.length_cons] at e
          omega⟩
        go_wp2_with fail
        go_quiet ((go_at_call 56; exact Calls.quiet_of_same (HX.out _)))
        go_wp2_with fail
        go_roundg g2
        case measure => have := HK.out; omega
        case rel => exact ⟨i + 1, by omega, by omega, ⟨by have := HK.out; omega⟩, ⟨by have h9 := (HIr.out.drewN 0).set_1 ((i : Int) + 1); exact h9⟩, ⟨below_set (pw_below_drewN HBr.out _) hge⟩, ⟨(keep_drewN HKr.out _).set_ _ _⟩, HE2⟩
      · have d2 : decide (x < 0) = false := decide_eq_false (fun h => hp (hpl.1 h))
        have hz : b + n = i := by
          have e := HE.out
          rw [HD.out, List.takeWhile_cons, if_neg hp] at e
          simpa using e
        clear hpl hp
        rw [hz] at HV HF
        clear hz
        go_wp2_with fail
        go_quiet ((go_at_call 56; exact Calls.quiet_of_same (HX.out _)))
        have HI3 := HIr
        have HB3 := HBr
        have HK3 := HKr
        have HL := Aside0.mk HI3.out.lt
        go_wp2_with fail
        go_region_held3 (fun w' => w'.cell? ⟨g, 0, none⟩ = some (.string s) ∧ w'.cell? ⟨g, 1, none⟩ = some (.int .i64 i)) (first | go_keep | exact ⟨(hB3.cell (p := ⟨g, 0, none⟩) HL.out).trans hcz0, (hB3.cell (p := ⟨g, 1, none⟩) HL.out).trans hcz1⟩) (first | (go_at_call 57; refine (escape_Value.calls k (s.extract b i) r1 er _ (HGG.out.below (pw_below_drewN HB3.out _)) HV.out).mono ?_; rintro e w4 ⟨rfl, hB3⟩))
        have HB4 := Aside0.mk hB3
        clear hB3
        by_cases her : er = 0
        · obtain ⟨rfl, rfl⟩ := HF.out.1 her
          subst her
          go_wp2_with fail
          go_ret
          exact ⟨rfl, (HI3.out.drewN _).below HB4.out, (pw_below_drewN HB3.out _).trans (HB4.out.mono (pw_below_drewN HB3.out _).size), (keep_drewN HK3.out _).trans (KeepBut.of_below HB4.out g none) (.inl rfl)⟩
        · obtain ⟨rfl, rfl⟩ := HF.out.2 her
          have her1 : (er != 0) = true := bne_iff_ne.2 her
          have her2 : (er == 0) = false := beq_eq_false_iff_ne.2 her
          clear her
          have HI5 := Aside0.mk ((HI3.out.drewN _).below HB4.out)
          have HB5 := Aside0.mk ((pw_below_drewN HB3.out _).trans (HB4.out.mono (pw_below_drewN HB3.out _).size))
          have HK5 := Aside0.mk ((keep_drewN HK3.out _).trans (KeepBut.of_below HB4.out g none) (.inl rfl))
          clear hcz0 hcz1 hcz2 hfz1
          go_wp2_with (go_at_call 35; refine (line_reader_wrong.calls g s i 0 7 b s b 7 w0 _ HGG.out HI5.out HB5.out rfl).mono ?_; rintro e w6 ⟨rfl, hI6, hB6, hK6⟩; have HI6 := Aside0.mk hI6; have HB6 := Aside0.mk hB6; have HK6 := Aside0.mk hK6; clear hI6 hB6 hK6)
          go_ret
          exact ⟨rfl, HI6.out, HB6.out, HK5.out.trans HK6.out (.inl rfl)⟩
    · have d1 : decide (i < s.size) = false := decide_eq_false hlt
      have hz : b + n = i := by
        have e := HE.out
        rw [show s.data.toList.drop i = [] from List.drop_eq_nil_of_le (by simp; omega)] at e
        simpa using e
      rw [hz] at HV HF
      clear hz
      go_wp2_with fail
      go_quiet (fail)
      have HI3 := HIr
      have HB3 := HBr
      have HK3 := HKr
      have HL := Aside0.mk HI3.out.lt
      go_wp2_with fail
      go_region_held3 (fun w' => w'.cell? ⟨g, 0, none⟩ = some (.string s) ∧ w'.cell? ⟨g, 1, none⟩ = some (.int .i64 i)) (first | go_keep | exact ⟨(hB3.cell (p := ⟨g, 0, none⟩) HL.out).trans hcz0, (hB3.cell (p := ⟨g, 1, none⟩) HL.out).trans hcz1⟩) (first | (go_at_call 57; refine (escape_Value.calls k (s.extract b i) r1 er _ (HGG.out.below (pw_below_drewN HB3.out _)) HV.out).mono ?_; rintro e w4 ⟨rfl, hB3⟩))
      have HB4 := Aside0.mk hB3
      clear hB3
      by_cases her : er = 0
      · obtain ⟨rfl, rfl⟩ := HF.out.1 her
        subst her
        go_wp2_with fail
        go_ret
        exact ⟨rfl, (HI3.out.drewN _).below HB4.out, (pw_below_drewN HB3.out _).trans (HB4.out.mono (pw_below_drewN HB3.out _).size), (keep_drewN HK3.out _).trans (KeepBut.of_below HB4.out g none) (.inl rfl)⟩
      · obtain ⟨rfl, rfl⟩ := HF.out.2 her
        have her1 : (er != 0) = true := bne_iff_ne.2 her
        have her2 : (er == 0) = false := beq_eq_false_iff_ne.2 her
        clear her
        have HI5 := Aside0.mk ((HI3.out.drewN _).below HB4.out)
        have HB5 := Aside0.mk ((pw_below_drewN HB3.out _).trans (HB4.out.mono (pw_below_drewN HB3.out _).size))
        have HK5 := Aside0.mk ((keep_drewN HK3.out _).trans (KeepBut.of_below HB4.out g none) (.inl rfl))
        clear hcz0 hcz1 hcz2 hfz1
        go_wp2_with (go_at_call 35; refine (line_reader_wrong.calls g s i 0 7 b s b 7 w0 _ HGG.out HI5.out HB5.out rfl).mono ?_; rintro e w6 ⟨rfl, hI6, hB6, hK6⟩; have HI6 := Aside0.mk hI6; have HB6 := Aside0.mk hB6; have HK6 := Aside0.mk hK6; clear hI6 hB6 hK6)
        go_ret
        exact ⟨rfl, HI6.out, HB6.out, HK5.out.trans HK6.out (.inl rfl)⟩
theorem line_reader_value.calls (k : Nat) (g : Nat) (s0_0 : ByteArray) (s0_1 : Int) (s0_2 : Int) (r1 : ByteArray) (r2 : ByteArray) (r3 : Int) (r4 : Int) (w0 w : World) (hG : GG w0) (hI : IsS63 w0 w g s0_0 s0_1 s0_2) (hB : Below w0.heap.size w0 w) (h : line_reader_value.f k s0_0 s0_1 s0_2 = some (r1, r2, r3, r4)) :
    Calls Tryz.prog 50 #[.pointer (some ⟨g, 0, none⟩)] w fun e w' => e = .returned (.string r1) ∧ IsS63 w0 w' g r2 r3 r4 ∧ Below w0.heap.size w0 w' ∧ KeepBut w w' g none := by
  unfold line_reader_value.f at h
  by_cases hc : s0_2 = 0 ∧ 0 ≤ s0_1 ∧ s0_1 ≤ (s0_0.size : Int) ∧ s0_0.size ≤ 4611686018427387904
  · rw [if_pos hc] at h
    obtain ⟨rfl, h0, h1, h2⟩ := hc
    obtain ⟨b, rfl⟩ : ∃ b : Nat, s0_1 = (b : Int) := ⟨s0_1.toNat, by omega⟩
    rw [Int.toNat_natCast] at h
    have hfin : ∀ (n : Nat) (er : Int) (r3 r4 : Int), r3 = (if er = 0 then ((b + n : Nat) : Int) else (b : Int)) → r4 = (if er = 0 then 0 else 7) → Aside0 ((er = 0 → r3 = ((b + n : Nat) : Int) ∧ r4 = 0) ∧ (er ≠ 0 → r3 = (b : Int) ∧ r4 = 7)) := by
      intro n er r3 r4 e3 e4
      refine ⟨⟨fun he => ?_, fun he => ?_⟩⟩
      · rw [if_pos he] at e3 e4; exact ⟨e3, e4⟩
      · rw [if_neg he] at e3 e4; exact ⟨e3, e4⟩
    by_cases hq : ∃ hb : b < s0_0.size, s0_0[b] = 34
    · obtain ⟨hb, hq⟩ := hq
      have hdr : s0_0.data.toList.drop b = 34 :: s0_0.data.toList.drop (b + 1) := by
        rw [List.drop_eq_getElem_cons (by simpa using hb)]; rw [← hq]; rfl
      have hex : (s0_0.extract (b + 1) s0_0.size).data.toList = s0_0.data.toList.drop (b + 1) := Lib.extract_to_end _ _
      have hv : valEnd (s0_0.data.toList.drop b) = if Lib.indexByte (s0_0.extract (b + 1) s0_0.size).data.toList 34 < 0 then none else some ((Lib.indexByte (s0_0.extract (b + 1) s0_0.size).data.toList 34).toNat + 2) := by
        rw [hdr, hex]; rfl
      rw [hv] at h
      by_cases hx : Lib.indexByte (s0_0.extract (b + 1) s0_0.size).data.toList 34 < 0
      · rw [if_pos hx] at h
        simp only [Option.some.injEq, Prod.mk.injEq] at h
        obtain ⟨rfl, rfl, rfl, rfl⟩ := h
        exact value_open g _ b w0 w hG hI hB h2 hb hq hx _ _ _ ⟨rfl, rfl, rfl⟩
      · rw [if_neg hx] at h
        obtain ⟨n, hn⟩ : ∃ n : Nat, Lib.indexByte (s0_0.extract (b + 1) s0_0.size).data.toList 34 = n := ⟨(Lib.indexByte (s0_0.extract (b + 1) s0_0.size).data.toList 34).toNat, by omega⟩
        have hlt := idx_lt _ _ (Int.not_lt.1 hx)
        rw [hn, hex, List.length_drop, Array.length_toList] at hlt
        have es : s0_0.data.size = s0_0.size := rfl
        rw [hn, Int.toNat_natCast] at h
        simp only at h
        obtain ⟨p, hp, h⟩ := Option.bind_eq_some_iff.1 h
        simp only [Option.some.injEq, Prod.mk.injEq] at h
        obtain ⟨rfl, rfl, e3, e4⟩ := h
        exact value_quo g _ b w0 w hG hI hB h2 hb hq n hn (by omega) k p.1 p.2 ⟨hp⟩ _ _ (hfin (n + 2) p.2 _ _ e3.symm e4.symm)
    · have hv : valEnd (s0_0.data.toList.drop b) = some ((s0_0.data.toList.drop b).takeWhile plainV).length := by
        unfold valEnd
        rw [if_neg]
        intro hh
        by_cases hb : b < s0_0.size
        · rw [List.drop_eq_getElem_cons (by simpa using hb)] at hh
          exact hq ⟨hb, Option.some.inj hh⟩
        · rw [show s0_0.data.toList.drop b = [] from List.drop_eq_nil_of_le (by simp; omega)] at hh
          cases hh
      rw [hv] at h
      simp only at h
      obtain ⟨p, hp, h⟩ := Option.bind_eq_some_iff.1 h
      simp only [Option.some.injEq, Prod.mk.injEq] at h
      obtain ⟨rfl, rfl, e3, e4⟩ := h
      exact value_plain g _ b w0 w hG hI hB h2 (by omega) (fun hb he => hq ⟨hb, he⟩) _ rfl k p.1 p.2 ⟨hp⟩ _ _ (hfin _ p.2 _ _ e3.symm e4.symm)
  · rw [if_neg hc] at h; cases h
theorem line_reader_value.mono : ∀ a0 a1 a2 k, LeO (line_reader_value.f k a0 a1 a2) (line_reader_value.f (k + 1) a0 a1 a2) := by
  intro a0 a1 a2 k
  unfold line_reader_value.f
  refine LeO.ite ?_ (LeO.refl _)
  cases valEnd (a0.data.toList.drop a1.toNat) with
  | none => exact LeO.refl _
  | some n => exact LeO.bind (escape_Value.mono _ _) (fun _ => LeO.refl _)
end Go.Proofs.YtknmbalhbecdhaaGreatDoor.Print
end
section
namespace Go.Proofs.YtknmbalhbecdhaaGreatDoor.Print
open Go.RowKit Go.Proofs.YtknmbalhbecdhaaGreatDoorW.PrintWords Go.Proofs.YtknmbalhbecdhaaGreatDoorW.PrintLast
set_option linter.unusedVariables false
set_option linter.unusedSimpArgs false
mutual
def line_reader_param.j0 : Nat → List (S53) → Int → Bool → ByteArray → Int → Int → ByteArray → Option (ByteArray × List ByteArray × ByteArray × Int × Int)
 | 0, _, _, _, _, _, _, _ => none
 | k + 1, x1, x5, x25, x1000, x1001, x1002, x116000 => if x25 = true then ((line_reader_wrong.f x1000 x1001 x1002 5 x1001).bind fun bt120 => (line_reader_param.j1 k x1 x5 bt120.1 bt120.2.1 bt120.2.2 x116000)) else (line_reader_param.j1 k x1 x5 x1000 x1001 x1002 x116000)
def line_reader_param.j1 : Nat → List (S53) → Int → ByteArray → Int → Int → ByteArray → Option (ByteArray × List ByteArray × ByteArray × Int × Int)
 | 0, _, _, _, _, _, _ => none
 | k + 1, x1, x5, x1000, x1001, x1002, x116000 => if x1002 = 0 then (if (x1.length : Int) = 60 then (line_reader_param.j2 k x5 true x1000 x1001 x1002 x116000) else ((line_at.f x1 x116000).bind fun t123 => (line_reader_param.j2 k x5 (decide (t123 ≥ 0)) x1000 x1001 x1002 x116000))) else (line_reader_param.j2 k x5 false x1000 x1001 x1002 x116000)
def line_reader_param.j2 : Nat → Int → Bool → ByteArray → Int → Int → ByteArray → Option (ByteArray × List ByteArray × ByteArray × Int × Int)
 | 0, _, _, _, _, _, _ => none
 | k + 1, x5, x48, x1000, x1001, x1002, x116000 => if x48 = true then ((line_reader_wrong.f x1000 x1001 x1002 9 x5).bind fun bt124 => (line_reader_param.j3 k x5 bt124.1 bt124.2.1 bt124.2.2 x116000)) else (line_reader_param.j3 k x5 x1000 x1001 x1002 x116000)
def line_reader_param.j3 : Nat → Int → ByteArray → Int → Int → ByteArray → Option (ByteArray × List ByteArray × ByteArray × Int × Int)
 | 0, _, _, _, _, _ => none
 | k + 1, x5, x1000, x1001, x1002, x116000 => line_reader_param.l0 k x5 true x1000 x1001 x1002 x116000 ([] : List ByteArray)
def line_reader_param.l0 : Nat → Int → Bool → ByteArray → Int → Int → ByteArray → List ByteArray → Option (ByteArray × List ByteArray × ByteArray × Int × Int)
 | 0, _, _, _, _, _, _, _ => none
 | k + 1, x5, x7, x1000, x1001, x1002, x116000, x116001 => if x7 = true then (line_reader_param.j5 k x5 (x1002 == 0) x1000 x1001 x1002 x116000 x116001) else (line_reader_param.j5 k x5 false x1000 x1001 x1002 x116000 x116001)
def line_reader_param.j5 : Nat → Int → Bool → ByteArray → Int → Int → ByteArray → List ByteArray → Option (ByteArray × List ByteArray × ByteArray × Int × Int)
 | 0, _, _, _, _, _, _, _ => none
 | k + 1, x5, x59, x1000, x1001, x1002, x116000, x116001 => if x59 = true then (if (x116001.length : Int) = 60 then ((line_reader_wrong.f x1000 x1001 x1002 9 x5).bind fun bt127 => (some (x116000, x116001, bt127.1, bt127.2.1, bt127.2.2))) else ((line_reader_value.f k x1000 (wrap64 (x1001 + 1)) x1002).bind fun bt130 => (if x116001.length < 8796093022208 then ((line_reader_peek.f bt130.2.1 bt130.2.2.1 bt130.2.2.2).bind fun bt137 => (line_reader_param.l0 k x5 (bt137.1 == 44) bt137.2.1 bt137.2.2.1 bt137.2.2.2 x116000 (x116001 ++ [bt130.1]))) else (none)))) else (some (x116000, x116001, x1000, x1001, x1002))
end
def line_reader_param.f (k : Nat) (s0_0 : ByteArray) (s0_1 : Int) (s0_2 : Int) (l1 : List (S53)) : Option (ByteArray × List ByteArray × ByteArray × Int × Int) := (line_reader_name.f s0_0 s0_1 s0_2).bind fun bt111 => (if bt111.2.2.2 = 0 then ((line_reader_peek.f bt111.2.1 bt111.2.2.1 bt111.2.2.2).bind fun bt116 => (line_reader_param.j0 k l1 s0_1 (bt116.1 != 61) bt116.2.1 bt116.2.2.1 bt116.2.2.2 bt111.1)) else (line_reader_param.j0 k l1 s0_1 false bt111.2.1 bt111.2.2.1 bt111.2.2.2 bt111.1))
theorem line_reader_param.mono_l : ∀ k, (∀ y0 y1 y2 y3 y4 y5 y6, LeO (line_reader_param.j0 k y0 y1 y2 y3 y4 y5 y6) (line_reader_param.j0 (k + 1) y0 y1 y2 y3 y4 y5 y6)) ∧ (∀ y0 y1 y2 y3 y4 y5, LeO (line_reader_param.j1 k y0 y1 y2 y3 y4 y5) (line_reader_param.j1 (k + 1) y0 y1 y2 y3 y4 y5)) ∧ (∀ y0 y1 y2 y3 y4 y5, LeO (line_reader_param.j2 k y0 y1 y2 y3 y4 y5) (line_reader_param.j2 (k + 1) y0 y1 y2 y3 y4 y5)) ∧ (∀ y0 y1 y2 y3 y4, LeO (line_reader_param.j3 k y0 y1 y2 y3 y4) (line_reader_param.j3 (k + 1) y0 y1 y2 y3 y4)) ∧ (∀ y0 y1 y2 y3 y4 y5 y6, LeO (line_reader_param.l0 k y0 y1 y2 y3 y4 y5 y6) (line_reader_param.l0 (k + 1) y0 y1 y2 y3 y4 y5 y6)) ∧ (∀ y0 y1 y2 y3 y4 y5 y6, LeO (line_reader_param.j5 k y0 y1 y2 y3 y4 y5 y6) (line_reader_param.j5 (k + 1) y0 y1 y2 y3 y4 y5 y6))
 | 0 => ⟨fun _ _ _ _ _ _ _ r h => by simp [line_reader_param.j0] at h, fun _ _ _ _ _ _ r h => by simp [line_reader_param.j1] at h, fun _ _ _ _ _ _ r h => by simp [line_reader_param.j2] at h, fun _ _ _ _ _ r h => by simp [line_reader_param.j3] at h, fun _ _ _ _ _ _ _ r h => by simp [line_reader_param.l0] at h, fun _ _ _ _ _ _ _ r h => by simp [line_reader_param.j5] at h⟩
 | k + 1 => by
  obtain ⟨ih0, ih1, ih2, ih3, ih4, ih5⟩ := line_reader_param.mono_l k
  refine ⟨?_, ?_, ?_, ?_, ?_, ?_⟩
  ·intro y0 y1 y2 y3 y4 y5 y6
   unfold line_reader_param.j0
   repeat' first
   | (with_reducible exact ih0 _ _ _ _ _ _ _)
   | (with_reducible exact ih1 _ _ _ _ _ _)
   | (with_reducible exact ih2 _ _ _ _ _ _)
   | (with_reducible exact ih3 _ _ _ _ _)
   | (with_reducible exact ih4 _ _ _ _ _ _ _)
   | (with_reducible exact ih5 _ _ _ _ _ _ _)
   | (with_reducible exact line_reader_value.mono _ _ _ _)
   | (with_reducible exact LeO.refl _)
   | (with_reducible exact LeO.none _)
   | (with_reducible refine LeO.ite ?_ ?_)
   | (with_reducible refine LeO.bind ?_ (fun _ => ?_))
   | exact ih0 _ _ _ _ _ _ _
   | exact ih1 _ _ _ _ _ _
   | exact ih2 _ _ _ _ _ _
   | exact ih3 _ _ _ _ _
   | exact ih4 _ _ _ _ _ _ _
   | exact ih5 _ _ _ _ _ _ _
   | exact line_reader_value.mono _ _ _ _
   | exact LeO.none _
   | refine LeO.ite ?_ ?_
   | refine LeO.bind ?_ (fun _ => ?_)
  ·intro y0 y1 y2 y3 y4 y5
   unfold line_reader_param.j1
   repeat' first
   | (with_reducible exact ih0 _ _ _ _ _ _ _)
   | (with_reducible exact ih1 _ _ _ _ _ _)
   | (with_reducible exact ih2 _ _ _ _ _ _)
   | (with_reducible exact ih3 _ _ _ _ _)
   | (with_reducible exact ih4 _ _ _ _ _ _ _)
   | (with_reducible exact ih5 _ _ _ _ _ _ _)
   | (with_reducible exact line_reader_value.mono _ _ _ _)
   | (with_reducible exact LeO.refl _)
   | (with_reducible exact LeO.none _)
   | (with_reducible refine LeO.ite ?_ ?_)
   | (with_reducible refine LeO.bind ?_ (fun _ => ?_))
   | exact ih0 _ _ _ _ _ _ _
   | exact ih1 _ _ _ _ _ _
   | exact ih2 _ _ _ _ _ _
   | exact ih3 _ _ _ _ _
   | exact ih4 _ _ _ _ _ _ _
   | exact ih5 _ _ _ _ _ _ _
   | exact line_reader_value.mono _ _ _ _
   | exact LeO.none _
   | refine LeO.ite ?_ ?_
   | refine LeO.bind ?_ (fun _ => ?_)
  ·intro y0 y1 y2 y3 y4 y5
   unfold line_reader_param.j2
   repeat' first
   | (with_reducible exact ih0 _ _ _ _ _ _ _)
   | (with_reducible exact ih1 _ _ _ _ _ _)
   | (with_reducible exact ih2 _ _ _ _ _ _)
   | (with_reducible exact ih3 _ _ _ _ _)
   | (with_reducible exact ih4 _ _ _ _ _ _ _)
   | (with_reducible exact ih5 _ _ _ _ _ _ _)
   | (with_reducible exact line_reader_value.mono _ _ _ _)
   | (with_reducible exact LeO.refl _)
   | (with_reducible exact LeO.none _)
   | (with_reducible refine LeO.ite ?_ ?_)
   | (with_reducible refine LeO.bind ?_ (fun _ => ?_))
   | exact ih0 _ _ _ _ _ _ _
   | exact ih1 _ _ _ _ _ _
   | exact ih2 _ _ _ _ _ _
   | exact ih3 _ _ _ _ _
   | exact ih4 _ _ _ _ _ _ _
   | exact ih5 _ _ _ _ _ _ _
   | exact line_reader_value.mono _ _ _ _
   | exact LeO.none _
   | refine LeO.ite ?_ ?_
   | refine LeO.bind ?_ (fun _ => ?_)
  ·intro y0 y1 y2 y3 y4
   unfold line_reader_param.j3
   repeat' first
   | (with_reducible exact ih0 _ _ _ _ _ _ _)
   | (with_reducible exact ih1 _ _ _ _ _ _)
   | (with_reducible exact ih2 _ _ _ _ _ _)
   | (with_reducible exact ih3 _ _ _ _ _)
   | (with_reducible exact ih4 _ _ _ _ _ _ _)
   | (with_reducible exact ih5 _ _ _ _ _ _ _)
   | (with_reducible exact line_reader_value.mono _ _ _ _)
   | (with_reducible exact LeO.refl _)
   | (with_reducible exact LeO.none _)
   | (with_reducible refine LeO.ite ?_ ?_)
   | (with_reducible refine LeO.bind ?_ (fun _ => ?_))
   | exact ih0 _ _ _ _ _ _ _
   | exact ih1 _ _ _ _ _ _
   | exact ih2 _ _ _ _ _ _
   | exact ih3 _ _ _ _ _
   | exact ih4 _ _ _ _ _ _ _
   | exact ih5 _ _ _ _ _ _ _
   | exact line_reader_value.mono _ _ _ _
   | exact LeO.none _
   | refine LeO.ite ?_ ?_
   | refine LeO.bind ?_ (fun _ => ?_)
  ·intro y0 y1 y2 y3 y4 y5 y6
   unfold line_reader_param.l0
   repeat' first
   | (with_reducible exact ih0 _ _ _ _ _ _ _)
   | (with_reducible exact ih1 _ _ _ _ _ _)
   | (with_reducible exact ih2 _ _ _ _ _ _)
   | (with_reducible exact ih3 _ _ _ _ _)
   | (with_reducible exact ih4 _ _ _ _ _ _ _)
   | (with_reducible exact ih5 _ _ _ _ _ _ _)
   | (with_reducible exact line_reader_value.mono _ _ _ _)
   | (with_reducible exact LeO.refl _)
   | (with_reducible exact LeO.none _)
   | (with_reducible refine LeO.ite ?_ ?_)
   | (with_reducible refine LeO.bind ?_ (fun _ => ?_))
   | exact ih0 _ _ _ _ _ _ _
   | exact ih1 _ _ _ _ _ _
   | exact ih2 _ _ _ _ _ _
   | exact ih3 _ _ _ _ _
   | exact ih4 _ _ _ _ _ _ _
   | exact ih5 _ _ _ _ _ _ _
   | exact line_reader_value.mono _ _ _ _
   | exact LeO.none _
   | refine LeO.ite ?_ ?_
   | refine LeO.bind ?_ (fun _ => ?_)
  ·intro y0 y1 y2 y3 y4 y5 y6
   unfold line_reader_param.j5
   repeat' first
   | (with_reducible exact ih0 _ _ _ _ _ _ _)
   | (with_reducible exact ih1 _ _ _ _ _ _)
   | (with_reducible exact ih2 _ _ _ _ _ _)
   | (with_reducible exact ih3 _ _ _ _ _)
   | (with_reducible exact ih4 _ _ _ _ _ _ _)
   | (with_reducible exact ih5 _ _ _ _ _ _ _)
   | (with_reducible exact line_reader_value.mono _ _ _ _)
   | (with_reducible exact LeO.refl _)
   | (with_reducible exact LeO.none _)
   | (with_reducible refine LeO.ite ?_ ?_)
   | (with_reducible refine LeO.bind ?_ (fun _ => ?_))
   | exact ih0 _ _ _ _ _ _ _
   | exact ih1 _ _ _ _ _ _
   | exact ih2 _ _ _ _ _ _
   | exact ih3 _ _ _ _ _
   | exact ih4 _ _ _ _ _ _ _
   | exact ih5 _ _ _ _ _ _ _
   | exact line_reader_value.mono _ _ _ _
   | exact LeO.none _
   | refine LeO.ite ?_ ?_
   | refine LeO.bind ?_ (fun _ => ?_)
theorem line_reader_param.mono : ∀ a0 a1 a2 a3 k, LeO (line_reader_param.f k a0 a1 a2 a3) (line_reader_param.f (k + 1) a0 a1 a2 a3) := by
 intro a0 a1 a2 a3 k
 obtain ⟨ih0, ih1, ih2, ih3, ih4, ih5⟩ := line_reader_param.mono_l k
 unfold line_reader_param.f
 repeat' first
   | (with_reducible exact ih0 _ _ _ _ _ _ _)
   | (with_reducible exact ih1 _ _ _ _ _ _)
   | (with_reducible exact ih2 _ _ _ _ _ _)
   | (with_reducible exact ih3 _ _ _ _ _)
   | (with_reducible exact ih4 _ _ _ _ _ _ _)
   | (with_reducible exact ih5 _ _ _ _ _ _ _)
   | (with_reducible exact line_reader_value.mono _ _ _ _)
   | (with_reducible exact LeO.refl _)
   | (with_reducible exact LeO.none _)
   | (with_reducible refine LeO.ite ?_ ?_)
   | (with_reducible refine LeO.bind ?_ (fun _ => ?_))
   | exact ih0 _ _ _ _ _ _ _
   | exact ih1 _ _ _ _ _ _
   | exact ih2 _ _ _ _ _ _
   | exact ih3 _ _ _ _ _
   | exact ih4 _ _ _ _ _ _ _
   | exact ih5 _ _ _ _ _ _ _
   | exact line_reader_value.mono _ _ _ _
   | exact LeO.none _
   | refine LeO.ite ?_ ?_
   | refine LeO.bind ?_ (fun _ => ?_)
set_option maxHeartbeats 8000000 in
set_option maxRecDepth 100000 in
theorem line_reader_param.calls (k : Nat) (g : Nat) (s0_0 : ByteArray) (s0_1 : Int) (s0_2 : Int) (A1 : Option Addr) (c1 : Nat) (l1 : List (S53)) (r1 : ByteArray) (r2 : List ByteArray) (r3 : ByteArray) (r4 : Int) (r5 : Int) (w0 w : World) (hG : GG w0) (hI : IsS63 w0 w g s0_0 s0_1 s0_2) (hB : Below w0.heap.size w0 w) (hr1 : ∀ W_, KeepBut w W_ g none → Kd.C k53 W_ A1 l1.length l1) (hc1 : l1.length ≤ c1) (h : line_reader_param.f k s0_0 s0_1 s0_2 l1 = some (r1, r2, r3, r4, r5)) :
  Calls Tryz.prog 34 #[.pointer (some ⟨g, 0, none⟩), .slice A1 l1.length c1] w fun e w' => ∃ v1_ : Value, e = .returned (.agg #[.string r1, v1_]) ∧ Kd.R Kd.string 9 w' w.heap.size (fun _ => True) v1_ r2 ∧ IsS63 w0 w' g r3 r4 r5 ∧ Below w0.heap.size w0 w' ∧ KeepBut w w' g none := by
 have hu53 := Tryz.underlying53
 have HR1 := Aside0.mk hr1
 have HC1 := Aside0.mk hc1
 clear hr1 hc1
 have HI0 := Aside0.mk hI
 have HK := Aside0.mk (KeepBut.refl w g none)
 have HL := Aside0.mk hB.size
 clear hI
 have HW0 := Aside0.mk hB.size
 have HB := Aside0.mk hB
 clear hB
 have H : ((line_reader_name.f s0_0 s0_1 s0_2).bind fun bt111 => (if bt111.2.2.2 = 0 then ((line_reader_peek.f bt111.2.1 bt111.2.2.1 bt111.2.2.2).bind fun bt116 => (line_reader_param.j0 k l1 s0_1 (bt116.1 != 61) bt116.2.1 bt116.2.2.1 bt116.2.2.2 bt111.1)) else (line_reader_param.j0 k l1 s0_1 false bt111.2.1 bt111.2.2.1 bt111.2.2.2 bt111.1))) = some (r1, r2, r3, r4, r5) := h
 clear h
 replace H := Option.bind_eq_some_iff.mp H
 obtain ⟨⟨t111, t112, t113, t114⟩, A30, H⟩ := H
 replace H : (if t114 = 0 then ((line_reader_peek.f t112 t113 t114).bind fun bt116 => (line_reader_param.j0 k l1 s0_1 (bt116.1 != 61) bt116.2.1 bt116.2.2.1 bt116.2.2.2 t111)) else (line_reader_param.j0 k l1 s0_1 false t112 t113 t114 t111)) = some (r1, r2, r3, r4, r5) := H
 have A3 := Aside0.mk A30
 clear A30
 have HC4 := Aside0.mk H
 clear H
 go_enter Tryz.func34, Tryz.ntmps34
 go_upto_region 3 with (first | ((with_reducible refine gate_dst (N := 4) rfl ?_); (try (refine gate_guard (by rfl) ?_; dsimp only)); refine box_event ?hg (N := 4) ?hd (cs := #[.string (⟨#[]⟩ : ByteArray), .slice none 0 0]) (t := 53) ?hr ?_; (case hd => rfl); (case hg => rfl); (case hr => first | (go_simp; done) | (go_simp; rfl)); intro gb110 hg w5 hbox hb; have n0_ := Aside0.mk (IsS63.below (by repeat (first | (with_reducible first | exact HI0.out | apply IsS63.alloc | apply IsS63.drewN | apply IsS63.drew | apply IsS63.set_0 | apply IsS63.set_1 | apply IsS63.set_2) | exact HI0.out)) hb); have n1_ := Aside0.mk (KeepBut.trans (by repeat (first | (with_reducible first | exact HK.out | apply KeepBut.set_ | apply keep_drewN | apply keep_drew | apply keep_alloc) | exact HK.out)) (KeepBut.of_below hb g none) (.inl rfl)); have n2_ := Aside0.mk (below_step (by repeat (first | (with_reducible first | exact HB.out | apply below_alloc | apply pw_below_drewN | apply below_drew1 | refine below_set ?_ (IsS63.ge HI0.out)) | exact HB.out)) hb); have n3_ := Aside0.mk (hbox); have n4_ := Aside0.mk ((by rw [hg]; exact (keep_size (w := w) (g := g) (row := none) (by repeat (first | (with_reducible first | exact HK.out | apply KeepBut.set_ | apply keep_drewN | apply keep_drew | apply keep_alloc) | exact HK.out))) : w.heap.size ≤ gb110)); have n5_ := Aside0.mk ((Nat.le_trans HW0.out (by rw [hg]; exact (keep_size (w := w) (g := g) (row := none) (by repeat (first | (with_reducible first | exact HK.out | apply KeepBut.set_ | apply keep_drewN | apply keep_drew | apply keep_alloc) | exact HK.out))) : w.heap.size ≤ gb110) : w0.heap.size ≤ gb110)); have n6_ := Aside0.mk ((by rw [hg]; exact Nat.ne_of_lt (IsS63.lt (show IsS63 w0 _ g s0_0 s0_1 s0_2 from by repeat (first | (with_reducible first | exact HI0.out | apply IsS63.alloc | apply IsS63.drewN | apply IsS63.drew | apply IsS63.set_0 | apply IsS63.set_1 | apply IsS63.set_2) | exact HI0.out))) : g ≠ gb110)); have n7_ := Aside0.mk ((by rw [hg]; exact Nat.ne_of_gt (IsS63.lt (show IsS63 w0 _ g s0_0 s0_1 s0_2 from by repeat (first | (with_reducible first | exact HI0.out | apply IsS63.alloc | apply IsS63.drewN | apply IsS63.drew | apply IsS63.set_0 | apply IsS63.set_1 | apply IsS63.set_2) | exact HI0.out))) : gb110 ≠ g)); clear HI0; clear HK; clear HB; have HI0 := n0_; have HK := n1_; have HB := n2_; have BK110 := n3_; have GW110 := n4_; have GE110 := n5_; have NB0_110 := n6_; have NB110_0 := n7_; clear n0_ n1_ n2_ n3_ n4_ n5_ n6_ n7_; clear hb hbox hg; obtain ⟨HGz6, hgz6⟩ := HI0.out; have hcz6_0 := cellS63_0 HGz6; have hcz6_1 := cellS63_1 HGz6; have hcz6_2 := cellS63_2 HGz6; have hfz6_0 := blk_frozen HGz6 0; have hfz6_1 := blk_frozen HGz6 1; have hfz6_2 := blk_frozen HGz6 2; clear HGz6 hgz6) | ((with_reducible refine gate_callee (f := 32) rfl ?_); refine goesL_ (some 14) rfl rfl Tryz.func32 (by kernel_rfl) rfl #[.pointer (some ⟨g, 0, none⟩)] rfl (by (try simp only [List.map_toArray, List.map_cons, List.map_nil]); first | done | rfl | (simp only [List.length_drop, List.length_take]; rfl)) ?_; (with_reducible refine (line_reader_name.calls g s0_0 s0_1 s0_2 t111 t112 t113 t114 w0 _ (by first | (with_reducible exact hG) | exact GG.below hG (by repeat (first | (with_reducible first | exact HB.out | apply below_alloc | apply pw_below_drewN | apply below_drew1 | refine below_set ?_ (IsS63.ge HI0.out) | refine below_set ?_ GE110.out) | exact HB.out))) ?side1 ?side2 A3.out).mono ?_); (case side1 => repeat (first | (with_reducible first | exact HI0.out | apply IsS63.alloc | apply IsS63.drewN | apply IsS63.drew | apply IsS63.set_0 | apply IsS63.set_1 | apply IsS63.set_2 | refine IsS63.far ?_ NB0_110.out _) | exact HI0.out)); (case side2 => repeat (first | (with_reducible first | exact HB.out | apply below_alloc | apply pw_below_drewN | apply below_drew1 | refine below_set ?_ (IsS63.ge HI0.out) | refine below_set ?_ GE110.out) | exact HB.out)); rintro e w7 ⟨rfl, hi, hb, hk⟩; refine ⟨_, rfl, ?_⟩; have n0_ := Aside0.mk (KeepBut.blk hk (g' := gb110) (o := .cells #[.string (⟨#[]⟩ : ByteArray), .slice none 0 0] 53 (0, 0)) (by (with_reducible repeat (first | refine blk_drewN ?_ _ | refine blk_drew ?_ | refine blk_alloc ?_ _)); exact BK110.out) NB110_0.out (by simp)); have n1_ := Aside0.mk (KeepBut.trans (by repeat (first | (with_reducible first | exact HK.out | apply KeepBut.set_ | apply keep_drewN | apply keep_drew | apply keep_alloc | refine keep_far ?_ GW110.out _) | exact HK.out)) hk (.inl rfl)); have n2_ := Aside0.mk (hb); have n3_ := Aside0.mk (hi); clear BK110; clear HK; clear HB; clear HI0; have BK110 := n0_; have HK := n1_; have HB := n2_; have HI0 := n3_; clear n0_ n1_ n2_ n3_; (try clear hb); (try clear hb2); (try clear hk); (try clear hi)) | ((with_reducible refine gate_dst (N := 6) rfl ?_); (try (refine gate_guard (by rfl) ?_; dsimp only)); refine box_event ?hg (N := 6) ?hd (cs := #[.string (⟨#[]⟩ : ByteArray), .slice none 0 0]) (t := 53) ?hr ?_; (case hd => rfl); (case hg => rfl); (case hr => first | (go_simp; done) | (go_simp; rfl)); intro gb115 hg w8 hbox hb; have n0_ := Aside0.mk (IsS63.below (by repeat (first | (with_reducible first | exact HI0.out | apply IsS63.alloc | apply IsS63.drewN | apply IsS63.drew | apply IsS63.set_0 | apply IsS63.set_1 | apply IsS63.set_2 | refine IsS63.far ?_ NB0_110.out _) | exact HI0.out)) hb); have n1_ := Aside0.mk (blk_below (g := gb110) (o := .cells #[.string (⟨#[]⟩ : ByteArray), .slice none 0 0] 53 (0, 0)) (by (with_reducible repeat (first | refine blk_drewN ?_ _ | refine blk_drew ?_ | refine blk_alloc ?_ _)); exact BK110.out) hb); have n2_ := Aside0.mk (KeepBut.trans (by repeat (first | (with_reducible first | exact HK.out | apply KeepBut.set_ | apply keep_drewN | apply keep_drew | apply keep_alloc | refine keep_far ?_ GW110.out _) | exact HK.out)) (KeepBut.of_below hb g none) (.inl rfl)); have n3_ := Aside0.mk (below_step (by repeat (first | (with_reducible first | exact HB.out | apply below_alloc | apply pw_below_drewN | apply below_drew1 | refine below_set ?_ (IsS63.ge HI0.out) | refine below_set ?_ GE110.out) | exact HB.out)) hb); have n4_ := Aside0.mk (hbox); have n5_ := Aside0.mk ((by rw [hg]; exact (keep_size (w := w) (g := g) (row := none) (by repeat (first | (with_reducible first | exact HK.out | apply KeepBut.set_ | apply keep_drewN | apply keep_drew | apply keep_alloc | refine keep_far ?_ GW110.out _) | exact HK.out))) : w.heap.size ≤ gb115)); have n6_ := Aside0.mk ((Nat.le_trans HW0.out (by rw [hg]; exact (keep_size (w := w) (g := g) (row := none) (by repeat (first | (with_reducible first | exact HK.out | apply KeepBut.set_ | apply keep_drewN | apply keep_drew | apply keep_alloc | refine keep_far ?_ GW110.out _) | exact HK.out))) : w.heap.size ≤ gb115) : w0.heap.size ≤ gb115)); have n7_ := Aside0.mk ((by rw [hg]; exact Nat.ne_of_lt (blk_lt (g := gb110) (o := .cells #[.string (⟨#[]⟩ : ByteArray), .slice none 0 0] 53 (0, 0)) (by (with_reducible repeat (first | refine blk_drewN ?_ _ | refine blk_drew ?_ | refine blk_alloc ?_ _)); exact BK110.out)) : gb110 ≠ gb115)); have n8_ := Aside0.mk ((by rw [hg]; exact Nat.ne_of_gt (blk_lt (g := gb110) (o := .cells #[.string (⟨#[]⟩ : ByteArray), .slice none 0 0] 53 (0, 0)) (by (with_reducible repeat (first | refine blk_drewN ?_ _ | refine blk_drew ?_ | refine blk_alloc ?_ _)); exact BK110.out)) : gb115 ≠ gb110)); have n9_ := Aside0.mk ((by rw [hg]; exact Nat.ne_of_lt (IsS63.lt (show IsS63 w0 _ g t112 t113 t114 from by repeat (first | (with_reducible first | exact HI0.out | apply IsS63.alloc | apply IsS63.drewN | apply IsS63.drew | apply IsS63.set_0 | apply IsS63.set_1 | apply IsS63.set_2 | refine IsS63.far ?_ NB0_110.out _) | exact HI0.out))) : g ≠ gb115)); have n10_ := Aside0.mk ((by rw [hg]; exact Nat.ne_of_gt (IsS63.lt (show IsS63 w0 _ g t112 t113 t114 from by repeat (first | (with_reducible first | exact HI0.out | apply IsS63.alloc | apply IsS63.drewN | apply IsS63.drew | apply IsS63.set_0 | apply IsS63.set_1 | apply IsS63.set_2 | refine IsS63.far ?_ NB0_110.out _) | exact HI0.out))) : gb115 ≠ g)); clear HI0; clear BK110; clear HK; clear HB; have HI0 := n0_; have BK110 := n1_; have HK := n2_; have HB := n3_; have BK115 := n4_; have GW115 := n5_; have GE115 := n6_; have NB110_115 := n7_; have NB115_110 := n8_; have NB0_115 := n9_; have NB115_0 := n10_; clear n0_ n1_ n2_ n3_ n4_ n5_ n6_ n7_ n8_ n9_ n10_; clear hb hbox hg; have hnb9 := NB115_110.out; have hnc9 := NB110_115.out; have hnb10 := NB115_0.out; have hnc10 := NB0_115.out; have hcz11_0 : w8.cell? ⟨gb115, 0, none⟩ = some (.string (⟨#[]⟩ : ByteArray)) := (blk_cell BK115.out 0).trans rfl; have hcz11_1 : w8.cell? ⟨gb115, 1, none⟩ = some (.slice none 0 0) := (blk_cell BK115.out 1).trans rfl; have hfz11_0 := blk_frozen BK115.out 0; have hfz11_1 := blk_frozen BK115.out 1))
 (try simp only [Act.put, List.setIfInBounds_toArray, List.set_cons_zero, List.set_cons_succ])
 go_cut [25] (fun v25 wc => ∃ (kq : Nat) (x25_3 : Bool) (x1000_3 : ByteArray) (x1001_3 : Int) (x1002_3 : Int), v25 = .bool x25_3 ∧ Aside0 (line_reader_param.j0 kq l1 s0_1 x25_3 x1000_3 x1001_3 x1002_3 t111 = some (r1, r2, r3, r4, r5)) ∧ Aside0 (kq ≤ k) ∧ Aside0 (wc.heap[gb110]? = some (.cells #[.string (⟨#[]⟩ : ByteArray), (.slice none 0 0)] 53 (0, 0))) ∧ Aside0 (wc.heap[gb115]? = some (.cells #[.string t111, (.slice none 0 0)] 53 (0, 0))) ∧ Aside0 (IsS63 w0 wc g x1000_3 x1001_3 x1002_3) ∧ Aside0 (KeepBut w wc g none) ∧ Aside0 (Below w0.heap.size w0 wc))
 case first =>
  have H := HC4.out
  clear HC4
  by_cases c12 : t114 = 0
  ·rw [if_pos c12] at H
   have c12b0 : (t114 == 0) = true := beq_iff_eq.mpr c12
   have c12b1 : (t114 != 0) = false := bne_eq_false_iff_eq.mpr c12
   clear c12
   (first | rw [c12b0] | (simp only [i64_w, i32_w]; rw [c12b0]) | skip)
   replace H := Option.bind_eq_some_iff.mp H
   obtain ⟨⟨t116, t117, t118, t119⟩, A130, H⟩ := H
   replace H : (line_reader_param.j0 k l1 s0_1 (t116 != 61) t117 t118 t119 t111) = some (r1, r2, r3, r4, r5) := H
   have A13 := Aside0.mk A130
   clear A130
   have H' := Aside0.mk H
   clear H
   obtain ⟨HGz14, hgz14⟩ := HI0.out
   have hcz14_0 := cellS63_0 HGz14
   have hcz14_1 := cellS63_1 HGz14
   have hcz14_2 := cellS63_2 HGz14
   have hfz14_0 := blk_frozen HGz14 0
   have hfz14_1 := blk_frozen HGz14 1
   have hfz14_2 := blk_frozen HGz14 2
   clear HGz14 hgz14
   go_wp2_with (first | (go_at_call 33; (with_reducible refine (line_reader_peek.calls g t112 t113 t114 t116 t117 t118 t119 w0 _ (by first | (with_reducible exact hG) | exact GG.below hG (by repeat (first | (with_reducible first | exact HB.out | apply below_alloc | apply pw_below_drewN | apply below_drew1 | refine below_set ?_ (IsS63.ge HI0.out) | refine below_set ?_ GE110.out | refine below_set ?_ GE115.out) | exact HB.out))) ?side1 ?side2 A13.out).mono ?_); (case side1 => repeat (first | (with_reducible first | exact HI0.out | apply IsS63.alloc | apply IsS63.drewN | apply IsS63.drew | apply IsS63.set_0 | apply IsS63.set_1 | apply IsS63.set_2 | refine IsS63.far ?_ NB0_110.out _ | refine IsS63.far ?_ NB0_115.out _) | exact HI0.out)); (case side2 => repeat (first | (with_reducible first | exact HB.out | apply below_alloc | apply pw_below_drewN | apply below_drew1 | refine below_set ?_ (IsS63.ge HI0.out) | refine below_set ?_ GE110.out | refine below_set ?_ GE115.out) | exact HB.out)); rintro e w15 ⟨rfl, hi, hb, hk⟩; have n0_ := Aside0.mk (KeepBut.blk hk (g' := gb110) (o := .cells #[.string (⟨#[]⟩ : ByteArray), .slice none 0 0] 53 (0, 0)) (by (with_reducible repeat (first | refine blk_drewN ?_ _ | refine blk_drew ?_ | refine blk_alloc ?_ _)); refine blk_far ?_ NB110_115.out _; (with_reducible repeat (first | refine blk_drewN ?_ _ | refine blk_drew ?_ | refine blk_alloc ?_ _)); refine blk_far ?_ NB110_115.out _; (with_reducible repeat (first | refine blk_drewN ?_ _ | refine blk_drew ?_ | refine blk_alloc ?_ _)); exact BK110.out) NB110_0.out (by simp)); have n1_ := Aside0.mk (KeepBut.blk hk (g' := gb115) (o := .cells #[.string t111, .slice none 0 0] 53 (0, 0)) (by (with_reducible repeat (first | refine blk_drewN ?_ _ | refine blk_drew ?_ | refine blk_alloc ?_ _)); refine blk_put (cs := #[.string t111, .slice none 0 0]) ?_ 1 _ rfl; (with_reducible repeat (first | refine blk_drewN ?_ _ | refine blk_drew ?_ | refine blk_alloc ?_ _)); refine blk_put (cs := #[.string (⟨#[]⟩ : ByteArray), .slice none 0 0]) ?_ 0 _ rfl; (with_reducible repeat (first | refine blk_drewN ?_ _ | refine blk_drew ?_ | refine blk_alloc ?_ _)); exact BK115.out) NB115_0.out (by simp)); have n2_ := Aside0.mk (KeepBut.trans (by repeat (first | (with_reducible first | exact HK.out | apply KeepBut.set_ | apply keep_drewN | apply keep_drew | apply keep_alloc | refine keep_far ?_ GW110.out _ | refine keep_far ?_ GW115.out _) | exact HK.out)) hk (.inl rfl)); have n3_ := Aside0.mk (hb); have n4_ := Aside0.mk (hi); clear BK110; clear BK115; clear HK; clear HB; clear HI0; have BK110 := n0_; have BK115 := n1_; have HK := n2_; have HB := n3_; have HI0 := n4_; clear n0_ n1_ n2_ n3_ n4_; (try clear hb); (try clear hb2); (try clear hk); (try clear hi)))
   go_meet
   case rel => exact ⟨_, ((t116 != 61)), (t117), (t118), (t119), (by first | rfl | (simp; done) | (simp [bne_nil_isEmpty, beq_nil_isEmpty]; done) | (simp [*]; done)), H', ⟨by first | omega | exact Nat.le_refl _⟩, ⟨by (with_reducible repeat (first | refine blk_drewN ?_ _ | refine blk_drew ?_ | refine blk_alloc ?_ _)); exact BK110.out⟩, ⟨by (with_reducible repeat (first | refine blk_drewN ?_ _ | refine blk_drew ?_ | refine blk_alloc ?_ _)); exact BK115.out⟩, ⟨by repeat (first | (with_reducible first | exact HI0.out | apply IsS63.alloc | apply IsS63.drewN | apply IsS63.drew | apply IsS63.set_0 | apply IsS63.set_1 | apply IsS63.set_2 | refine IsS63.far ?_ NB0_110.out _ | refine IsS63.far ?_ NB0_115.out _) | exact HI0.out)⟩, ⟨by repeat (first | (with_reducible first | exact HK.out | apply KeepBut.set_ | apply keep_drewN | apply keep_drew | apply keep_alloc | refine keep_far ?_ GW110.out _ | refine keep_far ?_ GW115.out _) | exact HK.out)⟩, ⟨by repeat (first | (with_reducible first | exact HB.out | apply below_alloc | apply pw_below_drewN | apply below_drew1 | refine below_set ?_ (IsS63.ge HI0.out) | refine below_set ?_ GE110.out | refine below_set ?_ GE115.out) | exact HB.out)⟩⟩
  ·rw [if_neg c12] at H
   have c12b0 : (t114 == 0) = false := beq_eq_false_iff_ne.mpr c12
   have c12b1 : (t114 != 0) = true := bne_iff_ne.mpr c12
   (first | rw [c12b0] | (simp only [i64_w, i32_w]; rw [c12b0]) | skip)
   have H' := Aside0.mk H
   clear H
   obtain ⟨HGz16, hgz16⟩ := HI0.out
   have hcz16_0 := cellS63_0 HGz16
   have hcz16_1 := cellS63_1 HGz16
   have hcz16_2 := cellS63_2 HGz16
   have hfz16_0 := blk_frozen HGz16 0
   have hfz16_1 := blk_frozen HGz16 1
   have hfz16_2 := blk_frozen HGz16 2
   clear HGz16 hgz16
   go_wp2
   go_meet
   case rel => exact ⟨_, (false), (t112), (t113), (t114), (by first | rfl | (simp; done) | (simp [bne_nil_isEmpty, beq_nil_isEmpty]; done) | (simp [*]; done)), H', ⟨by first | omega | exact Nat.le_refl _⟩, ⟨by (with_reducible repeat (first | refine blk_drewN ?_ _ | refine blk_drew ?_ | refine blk_alloc ?_ _)); refine blk_far ?_ NB110_115.out _; (with_reducible repeat (first | refine blk_drewN ?_ _ | refine blk_drew ?_ | refine blk_alloc ?_ _)); refine blk_far ?_ NB110_115.out _; (with_reducible repeat (first | refine blk_drewN ?_ _ | refine blk_drew ?_ | refine blk_alloc ?_ _)); exact BK110.out⟩, ⟨by (with_reducible repeat (first | refine blk_drewN ?_ _ | refine blk_drew ?_ | refine blk_alloc ?_ _)); refine blk_put (cs := #[.string t111, .slice none 0 0]) ?_ 1 _ rfl; (with_reducible repeat (first | refine blk_drewN ?_ _ | refine blk_drew ?_ | refine blk_alloc ?_ _)); refine blk_put (cs := #[.string (⟨#[]⟩ : ByteArray), .slice none 0 0]) ?_ 0 _ rfl; (with_reducible repeat (first | refine blk_drewN ?_ _ | refine blk_drew ?_ | refine blk_alloc ?_ _)); exact BK115.out⟩, ⟨by repeat (first | (with_reducible first | exact HI0.out | apply IsS63.alloc | apply IsS63.drewN | apply IsS63.drew | apply IsS63.set_0 | apply IsS63.set_1 | apply IsS63.set_2 | refine IsS63.far ?_ NB0_110.out _ | refine IsS63.far ?_ NB0_115.out _) | exact HI0.out)⟩, ⟨by repeat (first | (with_reducible first | exact HK.out | apply KeepBut.set_ | apply keep_drewN | apply keep_drew | apply keep_alloc | refine keep_far ?_ GW110.out _ | refine keep_far ?_ GW115.out _) | exact HK.out)⟩, ⟨by repeat (first | (with_reducible first | exact HB.out | apply below_alloc | apply pw_below_drewN | apply below_drew1 | refine below_set ?_ (IsS63.ge HI0.out) | refine below_set ?_ GE110.out | refine below_set ?_ GE115.out) | exact HB.out)⟩⟩
 case rest =>
  clear HC4
  try clear c1
  try clear p2
  try clear c3
  try clear c9
  try clear c10
  try clear c12
  try clear c12b0
  try clear c12b1
  try clear hcz11_0
  try clear hcz11_1
  try clear hcz14_0
  try clear hcz14_1
  try clear hcz14_2
  try clear hcz16_0
  try clear hcz16_1
  try clear hcz16_2
  try clear hcz6_0
  try clear hcz6_1
  try clear hcz6_2
  try clear hfz11_0
  try clear hfz11_1
  try clear hfz14_0
  try clear hfz14_1
  try clear hfz14_2
  try clear hfz16_0
  try clear hfz16_1
  try clear hfz16_2
  try clear hfz6_0
  try clear hfz6_1
  try clear hfz6_2
  obtain ⟨kq, x25_3, x1000_3, x1001_3, x1002_3, rfl, HA, HJ3, BK110, BK115, HI0, HK, HB⟩ := hcut
  cases kq with
  | zero => exact absurd HA.out (by simp [line_reader_param.j0])
  | succ kj3 =>
   have H := HA.out
   clear HA
   simp only [line_reader_param.j0] at H
   have HC17 := Aside0.mk H
   clear H
   go_upto_if 25 with (fail)
   go_cut [] (fun wc => ∃ (kq : Nat) (x1000_16 : ByteArray) (x1001_16 : Int) (x1002_16 : Int), Aside0 (line_reader_param.j1 kq l1 s0_1 x1000_16 x1001_16 x1002_16 t111 = some (r1, r2, r3, r4, r5)) ∧ Aside0 (kq ≤ kj3) ∧ Aside0 (wc.heap[gb110]? = some (.cells #[.string (⟨#[]⟩ : ByteArray), (.slice none 0 0)] 53 (0, 0))) ∧ Aside0 (wc.heap[gb115]? = some (.cells #[.string t111, (.slice none 0 0)] 53 (0, 0))) ∧ Aside0 (IsS63 w0 wc g x1000_16 x1001_16 x1002_16) ∧ Aside0 (KeepBut w wc g none) ∧ Aside0 (Below w0.heap.size w0 wc))
   case first =>
    have H := HC17.out
    clear HC17
    by_cases c18 : x25_3 = true
    ·subst c18
     rw [if_pos rfl] at H
     replace H := Option.bind_eq_some_iff.mp H
     obtain ⟨⟨t120, t121, t122⟩, A190, H⟩ := H
     replace H : (line_reader_param.j1 kj3 l1 s0_1 t120 t121 t122 t111) = some (r1, r2, r3, r4, r5) := H
     have A19 := Aside0.mk A190
     clear A190
     have H' := Aside0.mk H
     clear H
     obtain ⟨HGz20, hgz20⟩ := HI0.out
     have hcz20_0 := cellS63_0 HGz20
     have hcz20_1 := cellS63_1 HGz20
     have hcz20_2 := cellS63_2 HGz20
     have hfz20_0 := blk_frozen HGz20 0
     have hfz20_1 := blk_frozen HGz20 1
     have hfz20_2 := blk_frozen HGz20 2
     clear HGz20 hgz20
     go_wp2_with (first | ((with_reducible refine gate_callee (f := 35) rfl ?_); refine goesL_ (some 31) rfl rfl Tryz.func35 (by kernel_rfl) rfl #[.pointer (some ⟨g, 0, none⟩), .int .i64 5, .int .i64 x1001_3] rfl (by (try simp only [List.map_toArray, List.map_cons, List.map_nil]); first | done | rfl | (simp only [List.length_drop, List.length_take]; rfl)) ?_; (with_reducible refine (line_reader_wrong.calls g x1000_3 x1001_3 x1002_3 5 x1001_3 t120 t121 t122 w0 _ (by first | (with_reducible exact hG) | exact GG.below hG (by repeat (first | (with_reducible first | exact HB.out | apply below_alloc | apply pw_below_drewN | apply below_drew1 | refine below_set ?_ (IsS63.ge HI0.out) | refine below_set ?_ GE110.out | refine below_set ?_ GE115.out) | exact HB.out))) ?side1 ?side2 A19.out).mono ?_); (case side1 => repeat (first | (with_reducible first | exact HI0.out | apply IsS63.alloc | apply IsS63.drewN | apply IsS63.drew | apply IsS63.set_0 | apply IsS63.set_1 | apply IsS63.set_2 | refine IsS63.far ?_ NB0_110.out _ | refine IsS63.far ?_ NB0_115.out _) | exact HI0.out)); (case side2 => repeat (first | (with_reducible first | exact HB.out | apply below_alloc | apply pw_below_drewN | apply below_drew1 | refine below_set ?_ (IsS63.ge HI0.out) | refine below_set ?_ GE110.out | refine below_set ?_ GE115.out) | exact HB.out)); rintro e w21 ⟨rfl, hi, hb, hk⟩; refine ⟨_, rfl, ?_⟩; have n0_ := Aside0.mk (KeepBut.blk hk (g' := gb110) (o := .cells #[.string (⟨#[]⟩ : ByteArray), .slice none 0 0] 53 (0, 0)) (by (with_reducible repeat (first | refine blk_drewN ?_ _ | refine blk_drew ?_ | refine blk_alloc ?_ _)); exact BK110.out) NB110_0.out (by simp)); have n1_ := Aside0.mk (KeepBut.blk hk (g' := gb115) (o := .cells #[.string t111, .slice none 0 0] 53 (0, 0)) (by (with_reducible repeat (first | refine blk_drewN ?_ _ | refine blk_drew ?_ | refine blk_alloc ?_ _)); exact BK115.out) NB115_0.out (by simp)); have n2_ := Aside0.mk (KeepBut.trans (by repeat (first | (with_reducible first | exact HK.out | apply KeepBut.set_ | apply keep_drewN | apply keep_drew | apply keep_alloc | refine keep_far ?_ GW110.out _ | refine keep_far ?_ GW115.out _) | exact HK.out)) hk (.inl rfl)); have n3_ := Aside0.mk (hb); have n4_ := Aside0.mk (hi); clear BK110; clear BK115; clear HK; clear HB; clear HI0; have BK110 := n0_; have BK115 := n1_; have HK := n2_; have HB := n3_; have HI0 := n4_; clear n0_ n1_ n2_ n3_ n4_; (try clear hb); (try clear hb2); (try clear hk); (try clear hi)))
     go_meet
     case rel => exact ⟨_, (t120), (t121), (t122), H', ⟨by have := HJ3.out; first | omega | exact Nat.le_refl _⟩, ⟨by (with_reducible repeat (first | refine blk_drewN ?_ _ | refine blk_drew ?_ | refine blk_alloc ?_ _)); exact BK110.out⟩, ⟨by (with_reducible repeat (first | refine blk_drewN ?_ _ | refine blk_drew ?_ | refine blk_alloc ?_ _)); exact BK115.out⟩, ⟨by repeat (first | (with_reducible first | exact HI0.out | apply IsS63.alloc | apply IsS63.drewN | apply IsS63.drew | apply IsS63.set_0 | apply IsS63.set_1 | apply IsS63.set_2 | refine IsS63.far ?_ NB0_110.out _ | refine IsS63.far ?_ NB0_115.out _) | exact HI0.out)⟩, ⟨by repeat (first | (with_reducible first | exact HK.out | apply KeepBut.set_ | apply keep_drewN | apply keep_drew | apply keep_alloc | refine keep_far ?_ GW110.out _ | refine keep_far ?_ GW115.out _) | exact HK.out)⟩, ⟨by repeat (first | (with_reducible first | exact HB.out | apply below_alloc | apply pw_below_drewN | apply below_drew1 | refine below_set ?_ (IsS63.ge HI0.out) | refine below_set ?_ GE110.out | refine below_set ?_ GE115.out) | exact HB.out)⟩⟩
    ·replace c18 := Bool.eq_false_iff.mpr c18
     subst c18
     rw [if_neg (show ¬ (false = true) by decide)] at H
     have H' := Aside0.mk H
     clear H
     go_wp2
     go_meet
     case rel => exact ⟨_, (x1000_3), (x1001_3), (x1002_3), H', ⟨by have := HJ3.out; first | omega | exact Nat.le_refl _⟩, ⟨by (with_reducible repeat (first | refine blk_drewN ?_ _ | refine blk_drew ?_ | refine blk_alloc ?_ _)); exact BK110.out⟩, ⟨by (with_reducible repeat (first | refine blk_drewN ?_ _ | refine blk_drew ?_ | refine blk_alloc ?_ _)); exact BK115.out⟩, ⟨by repeat (first | (with_reducible first | exact HI0.out | apply IsS63.alloc | apply IsS63.drewN | apply IsS63.drew | apply IsS63.set_0 | apply IsS63.set_1 | apply IsS63.set_2 | refine IsS63.far ?_ NB0_110.out _ | refine IsS63.far ?_ NB0_115.out _) | exact HI0.out)⟩, ⟨by repeat (first | (with_reducible first | exact HK.out | apply KeepBut.set_ | apply keep_drewN | apply keep_drew | apply keep_alloc | refine keep_far ?_ GW110.out _ | refine keep_far ?_ GW115.out _) | exact HK.out)⟩, ⟨by repeat (first | (with_reducible first | exact HB.out | apply below_alloc | apply pw_below_drewN | apply below_drew1 | refine below_set ?_ (IsS63.ge HI0.out) | refine below_set ?_ GE110.out | refine below_set ?_ GE115.out) | exact HB.out)⟩⟩
   case rest =>
    clear HC17
    try clear c1
    try clear p2
    try clear c3
    try clear c9
    try clear c10
    try clear c12
    try clear c12b0
    try clear c12b1
    try clear c18
    try clear hcz11_0
    try clear hcz11_1
    try clear hcz14_0
    try clear hcz14_1
    try clear hcz14_2
    try clear hcz16_0
    try clear hcz16_1
    try clear hcz16_2
    try clear hcz20_0
    try clear hcz20_1
    try clear hcz20_2
    try clear hcz6_0
    try clear hcz6_1
    try clear hcz6_2
    try clear hfz11_0
    try clear hfz11_1
    try clear hfz14_0
    try clear hfz14_1
    try clear hfz14_2
    try clear hfz16_0
    try clear hfz16_1
    try clear hfz16_2
    try clear hfz20_0
    try clear hfz20_1
    try clear hfz20_2
    try clear hfz6_0
    try clear hfz6_1
    try clear hfz6_2
    try clear p2
    obtain ⟨kq, x1000_16, x1001_16, x1002_16, HA, HJ16, BK110, BK115, HI0, HK, HB⟩ := hcut
    cases kq with
    | zero => exact absurd HA.out (by simp [line_reader_param.j1])
    | succ kj16 =>
     have H := HA.out
     clear HA
     simp only [line_reader_param.j1] at H
     have HC22 := Aside0.mk H
     clear H
     go_upto_region 5 with (fail)
     go_cut [48] (fun v48 wc => ∃ (kq : Nat) (x48_21 : Bool), v48 = .bool x48_21 ∧ Aside0 (line_reader_param.j2 kq s0_1 x48_21 x1000_16 x1001_16 x1002_16 t111 = some (r1, r2, r3, r4, r5)) ∧ Aside0 (kq ≤ kj16) ∧ Aside0 (wc.heap[gb110]? = some (.cells #[.string (⟨#[]⟩ : ByteArray), (.slice none 0 0)] 53 (0, 0))) ∧ Aside0 (wc.heap[gb115]? = some (.cells #[.string t111, (.slice none 0 0)] 53 (0, 0))) ∧ Aside0 (IsS63 w0 wc g x1000_16 x1001_16 x1002_16) ∧ Aside0 (KeepBut w wc g none) ∧ Aside0 (Below w0.heap.size w0 wc))
     case first =>
      have H := HC22.out
      clear HC22
      by_cases c23 : x1002_16 = 0
      ·rw [if_pos c23] at H
       have c23b0 : (x1002_16 == 0) = true := beq_iff_eq.mpr c23
       have c23b1 : (x1002_16 != 0) = false := bne_eq_false_iff_eq.mpr c23
       clear c23
       (first | rw [c23b0] | (simp only [i64_w, i32_w]; rw [c23b0]) | skip)
       by_cases c24 : (l1.length : Int) = 60
       ·rw [if_pos c24] at H
        have c24b0 : ((l1.length : Int) == 60) = true := beq_iff_eq.mpr c24
        have c24b1 : ((l1.length : Int) != 60) = false := bne_eq_false_iff_eq.mpr c24
        clear c24
        have H' := Aside0.mk H
        clear H
        obtain ⟨HGz25, hgz25⟩ := HI0.out
        have hcz25_0 := cellS63_0 HGz25
        have hcz25_1 := cellS63_1 HGz25
        have hcz25_2 := cellS63_2 HGz25
        have hfz25_0 := blk_frozen HGz25 0
        have hfz25_1 := blk_frozen HGz25 1
        have hfz25_2 := blk_frozen HGz25 2
        clear HGz25 hgz25
        go_wp2
        go_meet
        case rel => exact ⟨_, (true), (by first | rfl | (simp; done) | (simp [bne_nil_isEmpty, beq_nil_isEmpty]; done) | (simp [*]; done)), H', ⟨by have := HJ3.out; have := HJ16.out; first | omega | exact Nat.le_refl _⟩, ⟨by (with_reducible repeat (first | refine blk_drewN ?_ _ | refine blk_drew ?_ | refine blk_alloc ?_ _)); exact BK110.out⟩, ⟨by (with_reducible repeat (first | refine blk_drewN ?_ _ | refine blk_drew ?_ | refine blk_alloc ?_ _)); exact BK115.out⟩, ⟨by repeat (first | (with_reducible first | exact HI0.out | apply IsS63.alloc | apply IsS63.drewN | apply IsS63.drew | apply IsS63.set_0 | apply IsS63.set_1 | apply IsS63.set_2 | refine IsS63.far ?_ NB0_110.out _ | refine IsS63.far ?_ NB0_115.out _) | exact HI0.out)⟩, ⟨by repeat (first | (with_reducible first | exact HK.out | apply KeepBut.set_ | apply keep_drewN | apply keep_drew | apply keep_alloc | refine keep_far ?_ GW110.out _ | refine keep_far ?_ GW115.out _) | exact HK.out)⟩, ⟨by repeat (first | (with_reducible first | exact HB.out | apply below_alloc | apply pw_below_drewN | apply below_drew1 | refine below_set ?_ (IsS63.ge HI0.out) | refine below_set ?_ GE110.out | refine below_set ?_ GE115.out) | exact HB.out)⟩⟩
       ·rw [if_neg c24] at H
        have c24b0 : ((l1.length : Int) == 60) = false := beq_eq_false_iff_ne.mpr c24
        have c24b1 : ((l1.length : Int) != 60) = true := bne_iff_ne.mpr c24
        replace H := Option.bind_eq_some_iff.mp H
        obtain ⟨t123, A260, H⟩ := H
        replace H : (line_reader_param.j2 kj16 s0_1 (decide (t123 ≥ 0)) x1000_16 x1001_16 x1002_16 t111) = some (r1, r2, r3, r4, r5) := H
        have A26 := Aside0.mk A260
        clear A260
        have H' := Aside0.mk H
        clear H
        obtain ⟨HGz27, hgz27⟩ := HI0.out
        have hcz27_0 := cellS63_0 HGz27
        have hcz27_1 := cellS63_1 HGz27
        have hcz27_2 := cellS63_2 HGz27
        have hfz27_0 := blk_frozen HGz27 0
        have hfz27_1 := blk_frozen HGz27 1
        have hfz27_2 := blk_frozen HGz27 2
        clear HGz27 hgz27
        have hnb28 := NB115_110.out
        have hnc28 := NB110_115.out
        have hnb29 := NB115_0.out
        have hnc29 := NB0_115.out
        have hcz30_0 : wc.cell? ⟨gb115, 0, none⟩ = some (.string t111) := (blk_cell BK115.out 0).trans rfl
        have hcz30_1 : wc.cell? ⟨gb115, 1, none⟩ = some (.slice none 0 0) := (blk_cell BK115.out 1).trans rfl
        have hfz30_0 := blk_frozen BK115.out 0
        have hfz30_1 := blk_frozen BK115.out 1
        go_wp2_with (first | (go_at_call 27; (with_reducible refine (line_at.calls _ _ l1 t111 t123 _ (by first | (with_reducible exact hG) | exact GG.below hG (by repeat (first | (with_reducible first | exact HB.out | apply below_alloc | apply pw_below_drewN | apply below_drew1 | refine below_set ?_ (IsS63.ge HI0.out) | refine below_set ?_ GE110.out | refine below_set ?_ GE115.out) | exact HB.out))) ?side1 ?side2 A26.out).mono ?_); (case side1 => exact Kd.C_foot_now HR1.out (by repeat (first | (with_reducible first | exact HK.out | apply KeepBut.set_ | apply keep_drewN | apply keep_drew | apply keep_alloc | refine keep_far ?_ GW110.out _ | refine keep_far ?_ GW115.out _) | exact HK.out))); (case side2 => exact HC1.out); rintro e w31 ⟨rfl, hb⟩; have n0_ := Aside0.mk (blk_below (g := gb110) (o := .cells #[.string (⟨#[]⟩ : ByteArray), .slice none 0 0] 53 (0, 0)) (by (with_reducible repeat (first | refine blk_drewN ?_ _ | refine blk_drew ?_ | refine blk_alloc ?_ _)); exact BK110.out) hb); have n1_ := Aside0.mk (blk_below (g := gb115) (o := .cells #[.string t111, .slice none 0 0] 53 (0, 0)) (by (with_reducible repeat (first | refine blk_drewN ?_ _ | refine blk_drew ?_ | refine blk_alloc ?_ _)); exact BK115.out) hb); have n2_ := Aside0.mk (IsS63.below (by repeat (first | (with_reducible first | exact HI0.out | apply IsS63.alloc | apply IsS63.drewN | apply IsS63.drew | apply IsS63.set_0 | apply IsS63.set_1 | apply IsS63.set_2 | refine IsS63.far ?_ NB0_110.out _ | refine IsS63.far ?_ NB0_115.out _) | exact HI0.out)) hb); have n3_ := Aside0.mk (KeepBut.trans (by repeat (first | (with_reducible first | exact HK.out | apply KeepBut.set_ | apply keep_drewN | apply keep_drew | apply keep_alloc | refine keep_far ?_ GW110.out _ | refine keep_far ?_ GW115.out _) | exact HK.out)) (KeepBut.of_below hb g none) (.inl rfl)); have n4_ := Aside0.mk (below_step (by repeat (first | (with_reducible first | exact HB.out | apply below_alloc | apply pw_below_drewN | apply below_drew1 | refine below_set ?_ (IsS63.ge HI0.out) | refine below_set ?_ GE110.out | refine below_set ?_ GE115.out) | exact HB.out)) hb); clear BK110; clear BK115; clear HI0; clear HK; clear HB; have BK110 := n0_; have BK115 := n1_; have HI0 := n2_; have HK := n3_; have HB := n4_; clear n0_ n1_ n2_ n3_ n4_; (try clear hb); (try clear hb2); (try clear hk); (try clear hi)))
        go_meet
        case rel => exact ⟨_, (decide (t123 ≥ 0)), (by first | rfl | (simp; done) | (simp [bne_nil_isEmpty, beq_nil_isEmpty]; done) | (simp [*]; done)), H', ⟨by have := HJ3.out; have := HJ16.out; first | omega | exact Nat.le_refl _⟩, ⟨by (with_reducible repeat (first | refine blk_drewN ?_ _ | refine blk_drew ?_ | refine blk_alloc ?_ _)); exact BK110.out⟩, ⟨by (with_reducible repeat (first | refine blk_drewN ?_ _ | refine blk_drew ?_ | refine blk_alloc ?_ _)); exact BK115.out⟩, ⟨by repeat (first | (with_reducible first | exact HI0.out | apply IsS63.alloc | apply IsS63.drewN | apply IsS63.drew | apply IsS63.set_0 | apply IsS63.set_1 | apply IsS63.set_2 | refine IsS63.far ?_ NB0_110.out _ | refine IsS63.far ?_ NB0_115.out _) | exact HI0.out)⟩, ⟨by repeat (first | (with_reducible first | exact HK.out | apply KeepBut.set_ | apply keep_drewN | apply keep_drew | apply keep_alloc | refine keep_far ?_ GW110.out _ | refine keep_far ?_ GW115.out _) | exact HK.out)⟩, ⟨by repeat (first | (with_reducible first | exact HB.out | apply below_alloc | apply pw_below_drewN | apply below_drew1 | refine below_set ?_ (IsS63.ge HI0.out) | refine below_set ?_ GE110.out | refine below_set ?_ GE115.out) | exact HB.out)⟩⟩
      ·rw [if_neg c23] at H
       have c23b0 : (x1002_16 == 0) = false := beq_eq_false_iff_ne.mpr c23
       have c23b1 : (x1002_16 != 0) = true := bne_iff_ne.mpr c23
       (first | rw [c23b0] | (simp only [i64_w, i32_w]; rw [c23b0]) | skip)
       have H' := Aside0.mk H
       clear H
       obtain ⟨HGz32, hgz32⟩ := HI0.out
       have hcz32_0 := cellS63_0 HGz32
       have hcz32_1 := cellS63_1 HGz32
       have hcz32_2 := cellS63_2 HGz32
       have hfz32_0 := blk_frozen HGz32 0
       have hfz32_1 := blk_frozen HGz32 1
       have hfz32_2 := blk_frozen HGz32 2
       clear HGz32 hgz32
       go_wp2
       go_meet
       case rel => exact ⟨_, (false), (by first | rfl | (simp; done) | (simp [bne_nil_isEmpty, beq_nil_isEmpty]; done) | (simp [*]; done)), H', ⟨by have := HJ3.out; have := HJ16.out; first | omega | exact Nat.le_refl _⟩, ⟨by (with_reducible repeat (first | refine blk_drewN ?_ _ | refine blk_drew ?_ | refine blk_alloc ?_ _)); exact BK110.out⟩, ⟨by (with_reducible repeat (first | refine blk_drewN ?_ _ | refine blk_drew ?_ | refine blk_alloc ?_ _)); exact BK115.out⟩, ⟨by repeat (first | (with_reducible first | exact HI0.out | apply IsS63.alloc | apply IsS63.drewN | apply IsS63.drew | apply IsS63.set_0 | apply IsS63.set_1 | apply IsS63.set_2 | refine IsS63.far ?_ NB0_110.out _ | refine IsS63.far ?_ NB0_115.out _) | exact HI0.out)⟩, ⟨by repeat (first | (with_reducible first | exact HK.out | apply KeepBut.set_ | apply keep_drewN | apply keep_drew | apply keep_alloc | refine keep_far ?_ GW110.out _ | refine keep_far ?_ GW115.out _) | exact HK.out)⟩, ⟨by repeat (first | (with_reducible first | exact HB.out | apply below_alloc | apply pw_below_drewN | apply below_drew1 | refine below_set ?_ (IsS63.ge HI0.out) | refine below_set ?_ GE110.out | refine below_set ?_ GE115.out) | exact HB.out)⟩⟩
     case rest =>
      clear HC22
      try clear c1
      try clear c2
      try clear p2
      try clear c3
      try clear c9
      try clear c10
      try clear c12
      try clear c12b0
      try clear c12b1
      try clear c18
      try clear c23
      try clear c23b0
      try clear c23b1
      try clear c24
      try clear c24b0
      try clear c24b1
      try clear c28
      try clear c29
      try clear c32
      try clear hcz11_0
      try clear hcz11_1
      try clear hcz14_0
      try clear hcz14_1
      try clear hcz14_2
      try clear hcz16_0
      try clear hcz16_1
      try clear hcz16_2
      try clear hcz20_0
      try clear hcz20_1
      try clear hcz20_2
      try clear hcz25_0
      try clear hcz25_1
      try clear hcz25_2
      try clear hcz27_0
      try clear hcz27_1
      try clear hcz27_2
      try clear hcz30_0
      try clear hcz30_1
      try clear hcz32_0
      try clear hcz32_1
      try clear hcz32_2
      try clear hcz6_0
      try clear hcz6_1
      try clear hcz6_2
      try clear hfz11_0
      try clear hfz11_1
      try clear hfz14_0
      try clear hfz14_1
      try clear hfz14_2
      try clear hfz16_0
      try clear hfz16_1
      try clear hfz16_2
      try clear hfz20_0
      try clear hfz20_1
      try clear hfz20_2
      try clear hfz25_0
      try clear hfz25_1
      try clear hfz25_2
      try clear hfz27_0
      try clear hfz27_1
      try clear hfz27_2
      try clear hfz30_0
      try clear hfz30_1
      try clear hfz32_0
      try clear hfz32_1
      try clear hfz32_2
      try clear hfz6_0
      try clear hfz6_1
      try clear hfz6_2
      try clear p2
      obtain ⟨kq, x48_21, rfl, HA, HJ21, BK110, BK115, HI0, HK, HB⟩ := hcut
      cases kq with
      | zero => exact absurd HA.out (by simp [line_reader_param.j2])
      | succ kj21 =>
       have H := HA.out
       clear HA
       simp only [line_reader_param.j2] at H
       have HC33 := Aside0.mk H
       clear H
       go_upto_if 48 with (fail)
       go_cut [] (fun wc => ∃ (kq : Nat) (x1000_32 : ByteArray) (x1001_32 : Int) (x1002_32 : Int), Aside0 (line_reader_param.j3 kq s0_1 x1000_32 x1001_32 x1002_32 t111 = some (r1, r2, r3, r4, r5)) ∧ Aside0 (kq ≤ kj21) ∧ Aside0 (wc.heap[gb110]? = some (.cells #[.string (⟨#[]⟩ : ByteArray), (.slice none 0 0)] 53 (0, 0))) ∧ Aside0 (wc.heap[gb115]? = some (.cells #[.string t111, (.slice none 0 0)] 53 (0, 0))) ∧ Aside0 (IsS63 w0 wc g x1000_32 x1001_32 x1002_32) ∧ Aside0 (KeepBut w wc g none) ∧ Aside0 (Below w0.heap.size w0 wc))
       case first =>
        have H := HC33.out
        clear HC33
        by_cases c34 : x48_21 = true
        ·subst c34
         rw [if_pos rfl] at H
         replace H := Option.bind_eq_some_iff.mp H
         obtain ⟨⟨t124, t125, t126⟩, A350, H⟩ := H
         replace H : (line_reader_param.j3 kj21 s0_1 t124 t125 t126 t111) = some (r1, r2, r3, r4, r5) := H
         have A35 := Aside0.mk A350
         clear A350
         have H' := Aside0.mk H
         clear H
         go_wp2_with (first | ((with_reducible refine gate_callee (f := 35) rfl ?_); refine goesL_ (some 51) rfl rfl Tryz.func35 (by kernel_rfl) rfl #[.pointer (some ⟨g, 0, none⟩), .int .i64 9, .int .i64 s0_1] rfl (by (try simp only [List.map_toArray, List.map_cons, List.map_nil]); first | done | rfl | (simp only [List.length_drop, List.length_take]; rfl)) ?_; (with_reducible refine (line_reader_wrong.calls g x1000_16 x1001_16 x1002_16 9 s0_1 t124 t125 t126 w0 _ (by first | (with_reducible exact hG) | exact GG.below hG (by repeat (first | (with_reducible first | exact HB.out | apply below_alloc | apply pw_below_drewN | apply below_drew1 | refine below_set ?_ (IsS63.ge HI0.out) | refine below_set ?_ GE110.out | refine below_set ?_ GE115.out) | exact HB.out))) ?side1 ?side2 A35.out).mono ?_); (case side1 => repeat (first | (with_reducible first | exact HI0.out | apply IsS63.alloc | apply IsS63.drewN | apply IsS63.drew | apply IsS63.set_0 | apply IsS63.set_1 | apply IsS63.set_2 | refine IsS63.far ?_ NB0_110.out _ | refine IsS63.far ?_ NB0_115.out _) | exact HI0.out)); (case side2 => repeat (first | (with_reducible first | exact HB.out | apply below_alloc | apply pw_below_drewN | apply below_drew1 | refine below_set ?_ (IsS63.ge HI0.out) | refine below_set ?_ GE110.out | refine below_set ?_ GE115.out) | exact HB.out)); rintro e w36 ⟨rfl, hi, hb, hk⟩; refine ⟨_, rfl, ?_⟩; have n0_ := Aside0.mk (KeepBut.blk hk (g' := gb110) (o := .cells #[.string (⟨#[]⟩ : ByteArray), .slice none 0 0] 53 (0, 0)) (by (with_reducible repeat (first | refine blk_drewN ?_ _ | refine blk_drew ?_ | refine blk_alloc ?_ _)); exact BK110.out) NB110_0.out (by simp)); have n1_ := Aside0.mk (KeepBut.blk hk (g' := gb115) (o := .cells #[.string t111, .slice none 0 0] 53 (0, 0)) (by (with_reducible repeat (first | refine blk_drewN ?_ _ | refine blk_drew ?_ | refine blk_alloc ?_ _)); exact BK115.out) NB115_0.out (by simp)); have n2_ := Aside0.mk (KeepBut.trans (by repeat (first | (with_reducible first | exact HK.out | apply KeepBut.set_ | apply keep_drewN | apply keep_drew | apply keep_alloc | refine keep_far ?_ GW110.out _ | refine keep_far ?_ GW115.out _) | exact HK.out)) hk (.inl rfl)); have n3_ := Aside0.mk (hb); have n4_ := Aside0.mk (hi); clear BK110; clear BK115; clear HK; clear HB; clear HI0; have BK110 := n0_; have BK115 := n1_; have HK := n2_; have HB := n3_; have HI0 := n4_; clear n0_ n1_ n2_ n3_ n4_; (try clear hb); (try clear hb2); (try clear hk); (try clear hi)))
         go_meet
         case rel => exact ⟨_, (t124), (t125), (t126), H', ⟨by have := HJ3.out; have := HJ16.out; have := HJ21.out; first | omega | exact Nat.le_refl _⟩, ⟨by (with_reducible repeat (first | refine blk_drewN ?_ _ | refine blk_drew ?_ | refine blk_alloc ?_ _)); exact BK110.out⟩, ⟨by (with_reducible repeat (first | refine blk_drewN ?_ _ | refine blk_drew ?_ | refine blk_alloc ?_ _)); exact BK115.out⟩, ⟨by repeat (first | (with_reducible first | exact HI0.out | apply IsS63.alloc | apply IsS63.drewN | apply IsS63.drew | apply IsS63.set_0 | apply IsS63.set_1 | apply IsS63.set_2 | refine IsS63.far ?_ NB0_110.out _ | refine IsS63.far ?_ NB0_115.out _) | exact HI0.out)⟩, ⟨by repeat (first | (with_reducible first | exact HK.out | apply KeepBut.set_ | apply keep_drewN | apply keep_drew | apply keep_alloc | refine keep_far ?_ GW110.out _ | refine keep_far ?_ GW115.out _) | exact HK.out)⟩, ⟨by repeat (first | (with_reducible first | exact HB.out | apply below_alloc | apply pw_below_drewN | apply below_drew1 | refine below_set ?_ (IsS63.ge HI0.out) | refine below_set ?_ GE110.out | refine below_set ?_ GE115.out) | exact HB.out)⟩⟩
        ·replace c34 := Bool.eq_false_iff.mpr c34
         subst c34
         rw [if_neg (show ¬ (false = true) by decide)] at H
         have H' := Aside0.mk H
         clear H
         go_wp2
         go_meet
         case rel => exact ⟨_, (x1000_16), (x1001_16), (x1002_16), H', ⟨by have := HJ3.out; have := HJ16.out; have := HJ21.out; first | omega | exact Nat.le_refl _⟩, ⟨by (with_reducible repeat (first | refine blk_drewN ?_ _ | refine blk_drew ?_ | refine blk_alloc ?_ _)); exact BK110.out⟩, ⟨by (with_reducible repeat (first | refine blk_drewN ?_ _ | refine blk_drew ?_ | refine blk_alloc ?_ _)); exact BK115.out⟩, ⟨by repeat (first | (with_reducible first | exact HI0.out | apply IsS63.alloc | apply IsS63.drewN | apply IsS63.drew | apply IsS63.set_0 | apply IsS63.set_1 | apply IsS63.set_2 | refine IsS63.far ?_ NB0_110.out _ | refine IsS63.far ?_ NB0_115.out _) | exact HI0.out)⟩, ⟨by repeat (first | (with_reducible first | exact HK.out | apply KeepBut.set_ | apply keep_drewN | apply keep_drew | apply keep_alloc | refine keep_far ?_ GW110.out _ | refine keep_far ?_ GW115.out _) | exact HK.out)⟩, ⟨by repeat (first | (with_reducible first | exact HB.out | apply below_alloc | apply pw_below_drewN | apply below_drew1 | refine below_set ?_ (IsS63.ge HI0.out) | refine below_set ?_ GE110.out | refine below_set ?_ GE115.out) | exact HB.out)⟩⟩
       case rest =>
        clear HC33
        try clear c1
        try clear c2
        try clear p2
        try clear c3
        try clear c9
        try clear c10
        try clear c12
        try clear c12b0
        try clear c12b1
        try clear c18
        try clear c23
        try clear c23b0
        try clear c23b1
        try clear c24
        try clear c24b0
        try clear c24b1
        try clear c28
        try clear c29
        try clear c32
        try clear c34
        try clear c35
        try clear hcz11_0
        try clear hcz11_1
        try clear hcz14_0
        try clear hcz14_1
        try clear hcz14_2
        try clear hcz16_0
        try clear hcz16_1
        try clear hcz16_2
        try clear hcz20_0
        try clear hcz20_1
        try clear hcz20_2
        try clear hcz25_0
        try clear hcz25_1
        try clear hcz25_2
        try clear hcz27_0
        try clear hcz27_1
        try clear hcz27_2
        try clear hcz30_0
        try clear hcz30_1
        try clear hcz32_0
        try clear hcz32_1
        try clear hcz32_2
        try clear hcz6_0
        try clear hcz6_1
        try clear hcz6_2
        try clear hfz11_0
        try clear hfz11_1
        try clear hfz14_0
        try clear hfz14_1
        try clear hfz14_2
        try clear hfz16_0
        try clear hfz16_1
        try clear hfz16_2
        try clear hfz20_0
        try clear hfz20_1
        try clear hfz20_2
        try clear hfz25_0
        try clear hfz25_1
        try clear hfz25_2
        try clear hfz27_0
        try clear hfz27_1
        try clear hfz27_2
        try clear hfz30_0
        try clear hfz30_1
        try clear hfz32_0
        try clear hfz32_1
        try clear hfz32_2
        try clear hfz6_0
        try clear hfz6_1
        try clear hfz6_2
        try clear p2
        obtain ⟨kq, x1000_32, x1001_32, x1002_32, HA, HJ32, BK110, BK115, HI0, HK, HB⟩ := hcut
        cases kq with
        | zero => exact absurd HA.out (by simp [line_reader_param.j3])
        | succ kj32 =>
         have H := HA.out
         clear HA
         simp only [line_reader_param.j3] at H
         have H' := Aside0.mk H
         clear H
         go_wp2
         go_loopg [7] kj32 (fun kq v7 w' => ∃ (x7_5 : Bool) (x1000_5 : ByteArray) (x1001_5 : Int) (x1002_5 : Int) (x116001_5 : List ByteArray) (u116001 : Value), v7 = .bool x7_5 ∧ Aside0 (line_reader_param.l0 kq s0_1 x7_5 x1000_5 x1001_5 x1002_5 t111 x116001_5 = some (r1, r2, r3, r4, r5)) ∧ Aside0 (kq ≤ kj32) ∧ Aside0 (Kd.R Kd.string 9 w' w.heap.size (fun _ => True) u116001 x116001_5) ∧ Aside0 (w'.heap[gb110]? = some (.cells #[.string (⟨#[]⟩ : ByteArray), (.slice none 0 0)] 53 (0, 0))) ∧ Aside0 (w'.heap[gb115]? = some (.cells #[.string t111, u116001] 53 (0, 0))) ∧ Aside0 (IsS63 w0 w' g x1000_5 x1001_5 x1002_5) ∧ Aside0 (KeepBut w w' g none) ∧ Aside0 (Below w0.heap.size w0 w'))
         case atStart => exact ⟨(true), (x1000_32), (x1001_32), (x1002_32), (([] : List ByteArray)), (.slice none 0 0), (by first | rfl | (simp; done) | (simp [bne_nil_isEmpty, beq_nil_isEmpty]; done) | (simp [*]; done)), H', ⟨Nat.le_refl _⟩, ⟨by first | exact Kd.R_nil _ _ _ _ _ | exact Kd.N_nil _ _ _ _ _ | exact Kd.V_nil _ _ _ _ _ | exact Kd.Q_nil _ _ _ _ _ | exact Kd.S_nil _ _ _ _ _⟩, ⟨by (with_reducible repeat (first | refine blk_drewN ?_ _ | refine blk_drew ?_ | refine blk_alloc ?_ _)); exact BK110.out⟩, ⟨by (with_reducible repeat (first | refine blk_drewN ?_ _ | refine blk_drew ?_ | refine blk_alloc ?_ _)); exact BK115.out⟩, ⟨by repeat (first | (with_reducible first | exact HI0.out | apply IsS63.alloc | apply IsS63.drewN | apply IsS63.drew | apply IsS63.set_0 | apply IsS63.set_1 | apply IsS63.set_2 | refine IsS63.far ?_ NB0_110.out _ | refine IsS63.far ?_ NB0_115.out _) | exact HI0.out)⟩, ⟨by repeat (first | (with_reducible first | exact HK.out | apply KeepBut.set_ | apply keep_drewN | apply keep_drew | apply keep_alloc | refine keep_far ?_ GW110.out _ | refine keep_far ?_ GW115.out _) | exact HK.out)⟩, ⟨by repeat (first | (with_reducible first | exact HB.out | apply below_alloc | apply pw_below_drewN | apply below_drew1 | refine below_set ?_ (IsS63.ge HI0.out) | refine below_set ?_ GE110.out | refine below_set ?_ GE115.out) | exact HB.out)⟩⟩
         case round =>
          clear H'
          try clear c1
          try clear c2
          try clear p2
          try clear c3
          try clear c9
          try clear c10
          try clear c12
          try clear c12b0
          try clear c12b1
          try clear c18
          try clear c23
          try clear c23b0
          try clear c23b1
          try clear c24
          try clear c24b0
          try clear c24b1
          try clear c28
          try clear c29
          try clear c32
          try clear c34
          try clear c35
          try clear hcz11_0
          try clear hcz11_1
          try clear hcz14_0
          try clear hcz14_1
          try clear hcz14_2
          try clear hcz16_0
          try clear hcz16_1
          try clear hcz16_2
          try clear hcz20_0
          try clear hcz20_1
          try clear hcz20_2
          try clear hcz25_0
          try clear hcz25_1
          try clear hcz25_2
          try clear hcz27_0
          try clear hcz27_1
          try clear hcz27_2
          try clear hcz30_0
          try clear hcz30_1
          try clear hcz32_0
          try clear hcz32_1
          try clear hcz32_2
          try clear hcz6_0
          try clear hcz6_1
          try clear hcz6_2
          try clear hfz11_0
          try clear hfz11_1
          try clear hfz14_0
          try clear hfz14_1
          try clear hfz14_2
          try clear hfz16_0
          try clear hfz16_1
          try clear hfz16_2
          try clear hfz20_0
          try clear hfz20_1
          try clear hfz20_2
          try clear hfz25_0
          try clear hfz25_1
          try clear hfz25_2
          try clear hfz27_0
          try clear hfz27_1
          try clear hfz27_2
          try clear hfz30_0
          try clear hfz30_1
          try clear hfz32_0
          try clear hfz32_1
          try clear hfz32_2
          try clear hfz6_0
          try clear hfz6_1
          try clear hfz6_2
          try clear p2
          obtain ⟨x7_5, x1000_5, x1001_5, x1002_5, x116001_5, u116001, rfl, HA, HK5, HO_116001, BK110, BK115, HI0, HK, HB⟩ := hrel
          cases gk with
          | zero => exact absurd HA.out (by simp [line_reader_param.l0])
          | succ k5 =>
           have H := HA.out
           clear HA
           simp only [line_reader_param.l0] at H
           have HC37 := Aside0.mk H
           clear H
           go_upto_region 8 with (fail)
           go_cut [59] (fun v59 wc => ∃ (kq : Nat) (x59_36 : Bool), v59 = .bool x59_36 ∧ Aside0 (line_reader_param.j5 kq s0_1 x59_36 x1000_5 x1001_5 x1002_5 t111 x116001_5 = some (r1, r2, r3, r4, r5)) ∧ Aside0 (kq ≤ k5) ∧ Aside0 (Kd.R Kd.string 9 wc w.heap.size (fun _ => True) u116001 x116001_5) ∧ Aside0 (wc.heap[gb110]? = some (.cells #[.string (⟨#[]⟩ : ByteArray), (.slice none 0 0)] 53 (0, 0))) ∧ Aside0 (wc.heap[gb115]? = some (.cells #[.string t111, u116001] 53 (0, 0))) ∧ Aside0 (IsS63 w0 wc g x1000_5 x1001_5 x1002_5) ∧ Aside0 (KeepBut w wc g none) ∧ Aside0 (Below w0.heap.size w0 wc))
           case first =>
            have H := HC37.out
            clear HC37
            by_cases c38 : x7_5 = true
            ·subst c38
             rw [if_pos rfl] at H
             have H' := Aside0.mk H
             clear H
             obtain ⟨HGz39, hgz39⟩ := HI0.out
             have hcz39_0 := cellS63_0 HGz39
             have hcz39_1 := cellS63_1 HGz39
             have hcz39_2 := cellS63_2 HGz39
             have hfz39_0 := blk_frozen HGz39 0
             have hfz39_1 := blk_frozen HGz39 1
             have hfz39_2 := blk_frozen HGz39 2
             clear HGz39 hgz39
             go_wp2
             go_meet
             case rel => exact ⟨_, ((x1002_5 == 0)), (by first | rfl | (simp; done) | (simp [bne_nil_isEmpty, beq_nil_isEmpty]; done) | (simp [*]; done)), H', ⟨by have := HJ3.out; have := HJ16.out; have := HJ21.out; have := HJ32.out; have := HK5.out; first | omega | exact Nat.le_refl _⟩, ⟨by (with_reducible repeat (first | apply Kd.R_alloc | apply Kd.R_drewN | apply Kd.R_drew)); exact HO_116001.out⟩, ⟨by (with_reducible repeat (first | refine blk_drewN ?_ _ | refine blk_drew ?_ | refine blk_alloc ?_ _)); exact BK110.out⟩, ⟨by (with_reducible repeat (first | refine blk_drewN ?_ _ | refine blk_drew ?_ | refine blk_alloc ?_ _)); exact BK115.out⟩, ⟨by repeat (first | (with_reducible first | exact HI0.out | apply IsS63.alloc | apply IsS63.drewN | apply IsS63.drew | apply IsS63.set_0 | apply IsS63.set_1 | apply IsS63.set_2 | refine IsS63.far ?_ NB0_110.out _ | refine IsS63.far ?_ NB0_115.out _) | exact HI0.out)⟩, ⟨by repeat (first | (with_reducible first | exact HK.out | apply KeepBut.set_ | apply keep_drewN | apply keep_drew | apply keep_alloc | refine keep_far ?_ GW110.out _ | refine keep_far ?_ GW115.out _) | exact HK.out)⟩, ⟨by repeat (first | (with_reducible first | exact HB.out | apply below_alloc | apply pw_below_drewN | apply below_drew1 | refine below_set ?_ (IsS63.ge HI0.out) | refine below_set ?_ GE110.out | refine below_set ?_ GE115.out) | exact HB.out)⟩⟩
            ·replace c38 := Bool.eq_false_iff.mpr c38
             subst c38
             rw [if_neg (show ¬ (false = true) by decide)] at H
             have H' := Aside0.mk H
             clear H
             go_wp2
             go_meet
             case rel => exact ⟨_, (false), (by first | rfl | (simp; done) | (simp [bne_nil_isEmpty, beq_nil_isEmpty]; done) | (simp [*]; done)), H', ⟨by have := HJ3.out; have := HJ16.out; have := HJ21.out; have := HJ32.out; have := HK5.out; first | omega | exact Nat.le_refl _⟩, ⟨by (with_reducible repeat (first | apply Kd.R_alloc | apply Kd.R_drewN | apply Kd.R_drew)); exact HO_116001.out⟩, ⟨by (with_reducible repeat (first | refine blk_drewN ?_ _ | refine blk_drew ?_ | refine blk_alloc ?_ _)); exact BK110.out⟩, ⟨by (with_reducible repeat (first | refine blk_drewN ?_ _ | refine blk_drew ?_ | refine blk_alloc ?_ _)); exact BK115.out⟩, ⟨by repeat (first | (with_reducible first | exact HI0.out | apply IsS63.alloc | apply IsS63.drewN | apply IsS63.drew | apply IsS63.set_0 | apply IsS63.set_1 | apply IsS63.set_2 | refine IsS63.far ?_ NB0_110.out _ | refine IsS63.far ?_ NB0_115.out _) | exact HI0.out)⟩, ⟨by repeat (first | (with_reducible first | exact HK.out | apply KeepBut.set_ | apply keep_drewN | apply keep_drew | apply keep_alloc | refine keep_far ?_ GW110.out _ | refine keep_far ?_ GW115.out _) | exact HK.out)⟩, ⟨by repeat (first | (with_reducible first | exact HB.out | apply below_alloc | apply pw_below_drewN | apply below_drew1 | refine below_set ?_ (IsS63.ge HI0.out) | refine below_set ?_ GE110.out | refine below_set ?_ GE115.out) | exact HB.out)⟩⟩
           case rest =>
            clear HC37
            try clear c1
            try clear c2
            try clear p2
            try clear c3
            try clear c9
            try clear c10
            try clear c12
            try clear c12b0
            try clear c12b1
            try clear c18
            try clear c23
            try clear c23b0
            try clear c23b1
            try clear c24
            try clear c24b0
            try clear c24b1
            try clear c28
            try clear c29
            try clear c32
            try clear c34
            try clear c35
            try clear c38
            try clear hcz11_0
            try clear hcz11_1
            try clear hcz14_0
            try clear hcz14_1
            try clear hcz14_2
            try clear hcz16_0
            try clear hcz16_1
            try clear hcz16_2
            try clear hcz20_0
            try clear hcz20_1
            try clear hcz20_2
            try clear hcz25_0
            try clear hcz25_1
            try clear hcz25_2
            try clear hcz27_0
            try clear hcz27_1
            try clear hcz27_2
            try clear hcz30_0
            try clear hcz30_1
            try clear hcz32_0
            try clear hcz32_1
            try clear hcz32_2
            try clear hcz39_0
            try clear hcz39_1
            try clear hcz39_2
            try clear hcz6_0
            try clear hcz6_1
            try clear hcz6_2
            try clear hfz11_0
            try clear hfz11_1
            try clear hfz14_0
            try clear hfz14_1
            try clear hfz14_2
            try clear hfz16_0
            try clear hfz16_1
            try clear hfz16_2
            try clear hfz20_0
            try clear hfz20_1
            try clear hfz20_2
            try clear hfz25_0
            try clear hfz25_1
            try clear hfz25_2
            try clear hfz27_0
            try clear hfz27_1
            try clear hfz27_2
            try clear hfz30_0
            try clear hfz30_1
            try clear hfz32_0
            try clear hfz32_1
            try clear hfz32_2
            try clear hfz39_0
            try clear hfz39_1
            try clear hfz39_2
            try clear hfz6_0
            try clear hfz6_1
            try clear hfz6_2
            try clear p2
            obtain ⟨kq, x59_36, rfl, HA, HJ36, HO_116001, BK110, BK115, HI0, HK, HB⟩ := hcut
            cases kq with
            | zero => exact absurd HA.out (by simp [line_reader_param.j5])
            | succ kj36 =>
             have H := HA.out
             clear HA
             simp only [line_reader_param.j5] at H
             by_cases c40 : x59_36 = true
             ·subst c40
              rw [if_pos rfl] at H
              by_cases c41 : (x116001_5.length : Int) = 60
              ·rw [if_pos c41] at H
               have c41b0 : ((x116001_5.length : Int) == 60) = true := beq_iff_eq.mpr c41
               have c41b1 : ((x116001_5.length : Int) != 60) = false := bne_eq_false_iff_eq.mpr c41
               clear c41
               replace H := Option.bind_eq_some_iff.mp H
               obtain ⟨⟨t127, t128, t129⟩, A420, H⟩ := H
               replace H : (some (t111, x116001_5, t127, t128, t129)) = some (r1, r2, r3, r4, r5) := H
               have A42 := Aside0.mk A420
               clear A420
               simp only [Option.some.injEq, Prod.mk.injEq] at H
               obtain ⟨rfl, rfl, rfl, rfl, rfl⟩ := H
               have hnb43 := NB115_110.out
               have hnc43 := NB110_115.out
               have hnb44 := NB115_0.out
               have hnc44 := NB0_115.out
               have hcz45_0 : wc.cell? ⟨gb115, 0, none⟩ = some (.string t111) := (blk_cell BK115.out 0).trans rfl
               have hcz45_1 : wc.cell? ⟨gb115, 1, none⟩ = some (u116001) := (blk_cell BK115.out 1).trans rfl
               have hfz45_0 := blk_frozen BK115.out 0
               have hfz45_1 := blk_frozen BK115.out 1
               obtain ⟨Ao46, co46, eo46⟩ := Kd.R_slice HO_116001.out
               subst eo46
               go_wp2_with (first | ((with_reducible refine gate_callee (f := 35) rfl ?_); refine goesL_ (some 69) rfl rfl Tryz.func35 (by kernel_rfl) rfl #[.pointer (some ⟨g, 0, none⟩), .int .i64 9, .int .i64 s0_1] rfl (by (try simp only [List.map_toArray, List.map_cons, List.map_nil]); first | done | rfl | (simp only [List.length_drop, List.length_take]; rfl)) ?_; (with_reducible refine (line_reader_wrong.calls g x1000_5 x1001_5 x1002_5 9 s0_1 t127 t128 t129 w0 _ (by first | (with_reducible exact hG) | exact GG.below hG (by repeat (first | (with_reducible first | exact HB.out | apply below_alloc | apply pw_below_drewN | apply below_drew1 | refine below_set ?_ (IsS63.ge HI0.out) | refine below_set ?_ GE110.out | refine below_set ?_ GE115.out) | exact HB.out))) ?side1 ?side2 A42.out).mono ?_); (case side1 => repeat (first | (with_reducible first | exact HI0.out | apply IsS63.alloc | apply IsS63.drewN | apply IsS63.drew | apply IsS63.set_0 | apply IsS63.set_1 | apply IsS63.set_2 | refine IsS63.far ?_ NB0_110.out _ | refine IsS63.far ?_ NB0_115.out _) | exact HI0.out)); (case side2 => repeat (first | (with_reducible first | exact HB.out | apply below_alloc | apply pw_below_drewN | apply below_drew1 | refine below_set ?_ (IsS63.ge HI0.out) | refine below_set ?_ GE110.out | refine below_set ?_ GE115.out) | exact HB.out)); rintro e w47 ⟨rfl, hi, hb, hk⟩; refine ⟨_, rfl, ?_⟩; have n0_ := Aside0.mk (Kd.R_mono (Kd.R_keep (IsS63.apart (show IsS63 w0 _ g x1000_5 x1001_5 x1002_5 from by repeat (first | (with_reducible first | exact HI0.out | apply IsS63.alloc | apply IsS63.drewN | apply IsS63.drew | apply IsS63.set_0 | apply IsS63.set_1 | apply IsS63.set_2 | refine IsS63.far ?_ NB0_110.out _ | refine IsS63.far ?_ NB0_115.out _) | exact HI0.out)) (by (with_reducible repeat (first | apply Kd.R_alloc | apply Kd.R_drewN | apply Kd.R_drew)); exact HO_116001.out) (by decide)) hk (fun _ h => h.2)) (fun _ h => h.1)); have n1_ := Aside0.mk (KeepBut.blk hk (g' := gb110) (o := .cells #[.string (⟨#[]⟩ : ByteArray), .slice none 0 0] 53 (0, 0)) (by (with_reducible repeat (first | refine blk_drewN ?_ _ | refine blk_drew ?_ | refine blk_alloc ?_ _)); exact BK110.out) NB110_0.out (by simp)); have n2_ := Aside0.mk (KeepBut.blk hk (g' := gb115) (o := .cells #[.string t111, .slice Ao46 x116001_5.length co46] 53 (0, 0)) (by (with_reducible repeat (first | refine blk_drewN ?_ _ | refine blk_drew ?_ | refine blk_alloc ?_ _)); exact BK115.out) NB115_0.out (by simp)); have n3_ := Aside0.mk (KeepBut.trans (by repeat (first | (with_reducible first | exact HK.out | apply KeepBut.set_ | apply keep_drewN | apply keep_drew | apply keep_alloc | refine keep_far ?_ GW110.out _ | refine keep_far ?_ GW115.out _) | exact HK.out)) hk (.inl rfl)); have n4_ := Aside0.mk (hb); have n5_ := Aside0.mk (hi); clear HO_116001; clear BK110; clear BK115; clear HK; clear HB; clear HI0; have HO_116001 := n0_; have BK110 := n1_; have BK115 := n2_; have HK := n3_; have HB := n4_; have HI0 := n5_; clear n0_ n1_ n2_ n3_ n4_ n5_; (try clear hb); (try clear hb2); (try clear hk); (try clear hi); have hcz48_0 : w47.cell? ⟨gb115, 0, none⟩ = some (.string t111) := (blk_cell BK115.out 0).trans rfl; have hcz48_1 : w47.cell? ⟨gb115, 1, none⟩ = some (.slice Ao46 x116001_5.length co46) := (blk_cell BK115.out 1).trans rfl; have hfz48_0 := blk_frozen BK115.out 0; have hfz48_1 := blk_frozen BK115.out 1; have hnb49 := NB110_0.out; have hnc49 := NB0_110.out; have hcz50_0 : w47.cell? ⟨gb110, 0, none⟩ = some (.string (⟨#[]⟩ : ByteArray)) := (blk_cell BK110.out 0).trans rfl; have hcz50_1 : w47.cell? ⟨gb110, 1, none⟩ = some (.slice none 0 0) := (blk_cell BK110.out 1).trans rfl; have hfz50_0 := blk_frozen BK110.out 0; have hfz50_1 := blk_frozen BK110.out 1))
               refine bodyPost_ret (results_cell_row rfl _ _ gb110 53 #[.string t111, .slice Ao46 x116001_5.length co46] (0, 0) _ rfl (by (with_reducible repeat (first | refine blk_drewN ?_ _ | refine blk_drew ?_ | refine blk_alloc ?_ _)); refine blk_put (cs := #[.string t111, .slice none 0 0]) ?_ 1 _ rfl; (with_reducible repeat (first | refine blk_drewN ?_ _ | refine blk_drew ?_ | refine blk_alloc ?_ _)); refine blk_put (cs := #[.string (⟨#[]⟩ : ByteArray), .slice none 0 0]) ?_ 0 _ rfl; (with_reducible repeat (first | refine blk_drewN ?_ _ | refine blk_drew ?_ | refine blk_alloc ?_ _)); exact BK110.out) Tryz.underlying53 rfl (by kernel_rfl)) rfl ?_
               exact ⟨_, by first | rfl | (simp [errW_none, errW_some] <;> rfl) | (simp [*, errW_none, errW_some] <;> rfl), by (with_reducible repeat (first | apply Kd.R_alloc | apply Kd.R_drewN | apply Kd.R_drew)); exact Kd.R_mono (Kd.R_far (p := ⟨gb110, 1, none⟩) (Kd.R_far (p := ⟨gb110, 0, none⟩) (Kd.R_types HO_116001.out BK110.out (by decide)) (fun _ hk => hk.2) (.string t111)) (fun _ hk => hk.2) (.slice Ao46 x116001_5.length co46)) (fun _ hk => trivial), by repeat (first | (with_reducible first | exact HI0.out | apply IsS63.alloc | apply IsS63.drewN | apply IsS63.drew | apply IsS63.set_0 | apply IsS63.set_1 | apply IsS63.set_2 | refine IsS63.far ?_ NB0_110.out _ | refine IsS63.far ?_ NB0_115.out _) | exact HI0.out), by repeat (first | (with_reducible first | exact HB.out | apply below_alloc | apply pw_below_drewN | apply below_drew1 | refine below_set ?_ (IsS63.ge HI0.out) | refine below_set ?_ GE110.out | refine below_set ?_ GE115.out) | exact HB.out), by repeat (first | (with_reducible first | exact HK.out | apply KeepBut.set_ | apply keep_drewN | apply keep_drew | apply keep_alloc | refine keep_far ?_ GW110.out _ | refine keep_far ?_ GW115.out _) | exact HK.out)⟩
              ·rw [if_neg c41] at H
               have c41b0 : ((x116001_5.length : Int) == 60) = false := beq_eq_false_iff_ne.mpr c41
               have c41b1 : ((x116001_5.length : Int) != 60) = true := bne_iff_ne.mpr c41
               replace H := Option.bind_eq_some_iff.mp H
               obtain ⟨⟨t130, t131, t132, t133⟩, A510, H⟩ := H
               replace H : (if x116001_5.length < 8796093022208 then ((line_reader_peek.f t131 t132 t133).bind fun bt137 => (line_reader_param.l0 kj36 s0_1 (bt137.1 == 44) bt137.2.1 bt137.2.2.1 bt137.2.2.2 t111 (x116001_5 ++ [t130]))) else (none)) = some (r1, r2, r3, r4, r5) := H
               have A51 := Aside0.mk A510
               clear A510
               by_cases c52 : x116001_5.length < 8796093022208
               ·rw [if_pos c52] at H
                have LMc52 := Aside0.mk c52
                clear c52
                obtain ⟨y134, hy134⟩ : ∃ y_ : List ByteArray, y_ = (x116001_5 ++ [t130]) := ⟨_, rfl⟩
                replace H : ((line_reader_peek.f t131 t132 t133).bind fun bt137 => (line_reader_param.l0 kj36 s0_1 (bt137.1 == 44) bt137.2.1 bt137.2.2.1 bt137.2.2.2 t111 y134)) = some (r1, r2, r3, r4, r5) := by first | (rw [hy134]; with_reducible exact H) | (have H2_ := (Option.bind_some _ _).symm.trans H; rw [hy134]; with_reducible exact H2_) | (have H2_ := (Option.bind_some _ _).symm.trans H; with_reducible exact H2_) | with_reducible exact H | (rw [hy134]; exact H) | exact H
                have Ny134 := Aside0.mk hy134
                clear hy134
                replace H := Option.bind_eq_some_iff.mp H
                obtain ⟨⟨t137, t138, t139, t140⟩, A530, H⟩ := H
                replace H : (line_reader_param.l0 kj36 s0_1 (t137 == 44) t138 t139 t140 t111 y134) = some (r1, r2, r3, r4, r5) := H
                have A53 := Aside0.mk A530
                clear A530
                have H' := Aside0.mk H
                clear H
                have hnb54 := NB115_110.out
                have hnc54 := NB110_115.out
                have hnb55 := NB115_0.out
                have hnc55 := NB0_115.out
                have hcz56_0 : wc.cell? ⟨gb115, 0, none⟩ = some (.string t111) := (blk_cell BK115.out 0).trans rfl
                have hcz56_1 : wc.cell? ⟨gb115, 1, none⟩ = some (u116001) := (blk_cell BK115.out 1).trans rfl
                have hfz56_0 := blk_frozen BK115.out 0
                have hfz56_1 := blk_frozen BK115.out 1
                obtain ⟨Ao57, co57, eo57⟩ := Kd.R_slice HO_116001.out
                subst eo57
                obtain ⟨HGz58, hgz58⟩ := HI0.out
                have hcz58_0 := cellS63_0 HGz58
                have hcz58_1 := cellS63_1 HGz58
                have hcz58_2 := cellS63_2 HGz58
                have hfz58_0 := blk_frozen HGz58 0
                have hfz58_1 := blk_frozen HGz58 1
                have hfz58_2 := blk_frozen HGz58 2
                clear HGz58 hgz58
                go_wp2_with (first | ((with_reducible refine gate_callee (f := 50) rfl ?_); refine goesL_ (some 78) rfl rfl Tryz.func50 (by kernel_rfl) rfl #[.pointer (some ⟨g, 0, none⟩)] rfl (by (try simp only [List.map_toArray, List.map_cons, List.map_nil]); first | done | rfl | (simp only [List.length_drop, List.length_take]; rfl)) ?_; (with_reducible refine (line_reader_value.calls kj36 g x1000_5 (wrap64 (x1001_5 + 1)) x1002_5 t130 t131 t132 t133 w0 _ (by first | (with_reducible exact hG) | exact GG.below hG (by repeat (first | (with_reducible first | exact HB.out | apply below_alloc | apply pw_below_drewN | apply below_drew1 | refine below_set ?_ (IsS63.ge HI0.out) | refine below_set ?_ GE110.out | refine below_set ?_ GE115.out) | exact HB.out))) ?side1 ?side2 A51.out).mono ?_); (case side1 => repeat (first | (with_reducible first | exact HI0.out | apply IsS63.alloc | apply IsS63.drewN | apply IsS63.drew | apply IsS63.set_0 | apply IsS63.set_1 | apply IsS63.set_2 | refine IsS63.far ?_ NB0_110.out _ | refine IsS63.far ?_ NB0_115.out _) | exact HI0.out)); (case side2 => repeat (first | (with_reducible first | exact HB.out | apply below_alloc | apply pw_below_drewN | apply below_drew1 | refine below_set ?_ (IsS63.ge HI0.out) | refine below_set ?_ GE110.out | refine below_set ?_ GE115.out) | exact HB.out)); rintro e w59 ⟨rfl, hi, hb, hk⟩; refine ⟨_, rfl, ?_⟩; have n0_ := Aside0.mk (Kd.R_mono (Kd.R_keep (IsS63.apart (show IsS63 w0 _ g x1000_5 (wrap64 (x1001_5 + 1)) x1002_5 from by repeat (first | (with_reducible first | exact HI0.out | apply IsS63.alloc | apply IsS63.drewN | apply IsS63.drew | apply IsS63.set_0 | apply IsS63.set_1 | apply IsS63.set_2 | refine IsS63.far ?_ NB0_110.out _ | refine IsS63.far ?_ NB0_115.out _) | exact HI0.out)) (by (with_reducible repeat (first | apply Kd.R_alloc | apply Kd.R_drewN | apply Kd.R_drew)); exact (Kd.R_mono (Kd.R_far (p := ⟨g, 1, none⟩) (IsS63.apart HI0.out HO_116001.out (by decide)) (fun _ hk => hk.2) (.int .i64 (wrap64 (x1001_5 + 1)))) (fun _ h_ => h_.1))) (by decide)) hk (fun _ h => h.2)) (fun _ h => h.1)); have n1_ := Aside0.mk (KeepBut.blk hk (g' := gb110) (o := .cells #[.string (⟨#[]⟩ : ByteArray), .slice none 0 0] 53 (0, 0)) (by (with_reducible repeat (first | refine blk_drewN ?_ _ | refine blk_drew ?_ | refine blk_alloc ?_ _)); refine blk_far ?_ NB110_0.out _; (with_reducible repeat (first | refine blk_drewN ?_ _ | refine blk_drew ?_ | refine blk_alloc ?_ _)); exact BK110.out) NB110_0.out (by simp)); have n2_ := Aside0.mk (KeepBut.blk hk (g' := gb115) (o := .cells #[.string t111, .slice Ao57 x116001_5.length co57] 53 (0, 0)) (by (with_reducible repeat (first | refine blk_drewN ?_ _ | refine blk_drew ?_ | refine blk_alloc ?_ _)); refine blk_far ?_ NB115_0.out _; (with_reducible repeat (first | refine blk_drewN ?_ _ | refine blk_drew ?_ | refine blk_alloc ?_ _)); exact BK115.out) NB115_0.out (by simp)); have n3_ := Aside0.mk (KeepBut.trans (by repeat (first | (with_reducible first | exact HK.out | apply KeepBut.set_ | apply keep_drewN | apply keep_drew | apply keep_alloc | refine keep_far ?_ GW110.out _ | refine keep_far ?_ GW115.out _) | exact HK.out)) hk (.inl rfl)); have n4_ := Aside0.mk (hb); have n5_ := Aside0.mk (hi); clear HO_116001; clear BK110; clear BK115; clear HK; clear HB; clear HI0; have HO_116001 := n0_; have BK110 := n1_; have BK115 := n2_; have HK := n3_; have HB := n4_; have HI0 := n5_; clear n0_ n1_ n2_ n3_ n4_ n5_; (try clear hb); (try clear hb2); (try clear hk); (try clear hi); have hcz60_0 : w59.cell? ⟨gb115, 0, none⟩ = some (.string t111) := (blk_cell BK115.out 0).trans rfl; have hcz60_1 : w59.cell? ⟨gb115, 1, none⟩ = some (.slice Ao57 x116001_5.length co57) := (blk_cell BK115.out 1).trans rfl; have hfz60_0 := blk_frozen BK115.out 0; have hfz60_1 := blk_frozen BK115.out 1) | ((with_reducible refine gate_builtin (b := .append) (xs := #[.tmp 80, .tmp 82]) rfl ?_); (try (refine gate_guard (by rfl) ?_; dsimp only)); at_builtin; refine Kd.R_append Kd.string w.heap.size rfl (.tmp 80) (.tmp 82) 42 9 (.string ⟨#[]⟩) 16 rfl Tryz.underlying42 info9 rfl (by decide) (by omega) (.slice Ao57 x116001_5.length co57) x116001_5 t130 [.string t130] (fun _ => True) (fun _ => False) rfl rfl ?aP (fun _ hk => hk.elim) ?aF ?aO (Below.refl _ _) ?aS ?aL ?_; (case aP => exact rfl); (case aF => exact (fun _ _ => trivial)); (case aO => exact (by (with_reducible repeat (first | apply Kd.R_alloc | apply Kd.R_drewN | apply Kd.R_drew)); exact HO_116001.out)); (case aS => exact (keep_size (w := w) (g := g) (row := none) (by repeat (first | (with_reducible first | exact HK.out | apply KeepBut.set_ | apply keep_drewN | apply keep_drew | apply keep_alloc | refine keep_far ?_ GW110.out _ | refine keep_far ?_ GW115.out _) | exact HK.out)))); (case aL => have := LMc52.out; omega); intro v135 w61 ho hb hg hat; rw [← Ny134.out] at ho; have n0_ := Aside0.mk (blk_grown (g := gb110) (o := .cells #[.string (⟨#[]⟩ : ByteArray), .slice none 0 0] 53 (0, 0)) (by (with_reducible repeat (first | refine blk_drewN ?_ _ | refine blk_drew ?_ | refine blk_alloc ?_ _)); exact BK110.out) hg (Kd.R_ne HO_116001.out BK110.out (by decide))); have n1_ := Aside0.mk (blk_grown (g := gb115) (o := .cells #[.string t111, .slice Ao57 x116001_5.length co57] 53 (0, 0)) (by (with_reducible repeat (first | refine blk_drewN ?_ _ | refine blk_drew ?_ | refine blk_alloc ?_ _)); exact BK115.out) hg (Kd.R_ne HO_116001.out BK115.out (by decide))); have n2_ := Aside0.mk (IsS63.grown (by repeat (first | (with_reducible first | exact HI0.out | apply IsS63.alloc | apply IsS63.drewN | apply IsS63.drew | apply IsS63.set_0 | apply IsS63.set_1 | apply IsS63.set_2 | refine IsS63.far ?_ NB0_110.out _ | refine IsS63.far ?_ NB0_115.out _) | exact HI0.out)) hg (IsS63.own_ne HI0.out HO_116001.out (by decide))); have n3_ := Aside0.mk (below_weaken (by repeat (first | (with_reducible first | exact HB.out | apply below_alloc | apply pw_below_drewN | apply below_drew1 | refine below_set ?_ (IsS63.ge HI0.out) | refine below_set ?_ GE110.out | refine below_set ?_ GE115.out) | exact HB.out)) HL.out hb); have n4_ := Aside0.mk (KeepBut.trans (by repeat (first | (with_reducible first | exact HK.out | apply KeepBut.set_ | apply keep_drewN | apply keep_drew | apply keep_alloc | refine keep_far ?_ GW110.out _ | refine keep_far ?_ GW115.out _) | exact HK.out)) (KeepBut.of_grown hg g) (Kd.R_base2 HO_116001.out)); have n5_ := Aside0.mk (ho); clear BK110; clear BK115; clear HI0; clear HB; clear HK; clear HO_116001; have BK110 := n0_; have BK115 := n1_; have HI0 := n2_; have HB := n3_; have HK := n4_; have HO136 := n5_; clear n0_ n1_ n2_ n3_ n4_ n5_; clear ho hb hg hat; obtain ⟨Ao62, co62, eo62⟩ := Kd.R_slice HO136.out; subst eo62; have hcz63_0 : w61.cell? ⟨gb115, 0, none⟩ = some (.string t111) := (blk_cell BK115.out 0).trans rfl; have hcz63_1 : w61.cell? ⟨gb115, 1, none⟩ = some (.slice Ao57 x116001_5.length co57) := (blk_cell BK115.out 1).trans rfl; have hfz63_0 := blk_frozen BK115.out 0; have hfz63_1 := blk_frozen BK115.out 1) | ((with_reducible refine gate_callee (f := 33) rfl ?_); refine goesL_ (some 61) rfl rfl Tryz.func33 (by kernel_rfl) rfl #[.pointer (some ⟨g, 0, none⟩)] rfl (by (try simp only [List.map_toArray, List.map_cons, List.map_nil]); first | done | rfl | (simp only [List.length_drop, List.length_take]; rfl)) ?_; (with_reducible refine (line_reader_peek.calls g t131 t132 t133 t137 t138 t139 t140 w0 _ (by first | (with_reducible exact hG) | exact GG.below hG (by repeat (first | (with_reducible first | exact HB.out | apply below_alloc | apply pw_below_drewN | apply below_drew1 | refine below_set ?_ (IsS63.ge HI0.out) | refine below_set ?_ GE110.out | refine below_set ?_ GE115.out) | exact HB.out))) ?side1 ?side2 A53.out).mono ?_); (case side1 => repeat (first | (with_reducible first | exact HI0.out | apply IsS63.alloc | apply IsS63.drewN | apply IsS63.drew | apply IsS63.set_0 | apply IsS63.set_1 | apply IsS63.set_2 | refine IsS63.far ?_ NB0_110.out _ | refine IsS63.far ?_ NB0_115.out _) | exact HI0.out)); (case side2 => repeat (first | (with_reducible first | exact HB.out | apply below_alloc | apply pw_below_drewN | apply below_drew1 | refine below_set ?_ (IsS63.ge HI0.out) | refine below_set ?_ GE110.out | refine below_set ?_ GE115.out) | exact HB.out)); rintro e w64 ⟨rfl, hi, hb, hk⟩; refine ⟨_, rfl, ?_⟩; have n0_ := Aside0.mk (KeepBut.blk hk (g' := gb110) (o := .cells #[.string (⟨#[]⟩ : ByteArray), .slice none 0 0] 53 (0, 0)) (by (with_reducible repeat (first | refine blk_drewN ?_ _ | refine blk_drew ?_ | refine blk_alloc ?_ _)); refine blk_far ?_ NB110_115.out _; (with_reducible repeat (first | refine blk_drewN ?_ _ | refine blk_drew ?_ | refine blk_alloc ?_ _)); exact BK110.out) NB110_0.out (by simp)); have n1_ := Aside0.mk (KeepBut.blk hk (g' := gb115) (o := .cells #[.string t111, .slice Ao62 y134.length co62] 53 (0, 0)) (by (with_reducible repeat (first | refine blk_drewN ?_ _ | refine blk_drew ?_ | refine blk_alloc ?_ _)); refine blk_put (cs := #[.string t111, .slice Ao57 x116001_5.length co57]) ?_ 1 _ rfl; (with_reducible repeat (first | refine blk_drewN ?_ _ | refine blk_drew ?_ | refine blk_alloc ?_ _)); exact BK115.out) NB115_0.out (by simp)); have n2_ := Aside0.mk (Kd.R_mono (Kd.R_keep (IsS63.apart (show IsS63 w0 _ g t131 t132 t133 from by repeat (first | (with_reducible first | exact HI0.out | apply IsS63.alloc | apply IsS63.drewN | apply IsS63.drew | apply IsS63.set_0 | apply IsS63.set_1 | apply IsS63.set_2 | refine IsS63.far ?_ NB0_110.out _ | refine IsS63.far ?_ NB0_115.out _) | exact HI0.out)) (by (with_reducible repeat (first | apply Kd.R_alloc | apply Kd.R_drewN | apply Kd.R_drew)); exact (Kd.R_mono (Kd.R_far (p := ⟨gb115, 1, none⟩) (Kd.R_types HO136.out BK115.out (by decide)) (fun _ hk => hk.2) (.slice Ao62 y134.length co62)) (fun _ h_ => h_.1))) (by decide)) hk (fun _ h => h.2)) (fun _ h => h.1)); have n3_ := Aside0.mk (KeepBut.trans (by repeat (first | (with_reducible first | exact HK.out | apply KeepBut.set_ | apply keep_drewN | apply keep_drew | apply keep_alloc | refine keep_far ?_ GW110.out _ | refine keep_far ?_ GW115.out _) | exact HK.out)) hk (.inl rfl)); have n4_ := Aside0.mk (hb); have n5_ := Aside0.mk (hi); clear BK110; clear BK115; clear HO136; clear HK; clear HB; clear HI0; have BK110 := n0_; have BK115 := n1_; have HO136 := n2_; have HK := n3_; have HB := n4_; have HI0 := n5_; clear n0_ n1_ n2_ n3_ n4_ n5_; (try clear hb); (try clear hb2); (try clear hk); (try clear hi)))
                go_roundg kj36
                case measure => have := HJ3.out; have := HJ16.out; have := HJ21.out; have := HJ32.out; have := HK5.out; have := HJ36.out; omega
                case rel => exact ⟨((t137 == 44)), (t138), (t139), (t140), (y134), (.slice Ao62 y134.length co62), (by first | rfl | (simp; done) | (simp [bne_nil_isEmpty, beq_nil_isEmpty]; done) | (simp [*]; done)), H', ⟨by have := HJ3.out; have := HJ16.out; have := HJ21.out; have := HJ32.out; have := HK5.out; have := HJ36.out; omega⟩, ⟨by (with_reducible repeat (first | apply Kd.R_alloc | apply Kd.R_drewN | apply Kd.R_drew)); exact HO136.out⟩, ⟨by (with_reducible repeat (first | refine blk_drewN ?_ _ | refine blk_drew ?_ | refine blk_alloc ?_ _)); exact BK110.out⟩, ⟨by (with_reducible repeat (first | refine blk_drewN ?_ _ | refine blk_drew ?_ | refine blk_alloc ?_ _)); exact BK115.out⟩, ⟨by repeat (first | (with_reducible first | exact HI0.out | apply IsS63.alloc | apply IsS63.drewN | apply IsS63.drew | apply IsS63.set_0 | apply IsS63.set_1 | apply IsS63.set_2 | refine IsS63.far ?_ NB0_110.out _ | refine IsS63.far ?_ NB0_115.out _) | exact HI0.out)⟩, ⟨by repeat (first | (with_reducible first | exact HK.out | apply KeepBut.set_ | apply keep_drewN | apply keep_drew | apply keep_alloc | refine keep_far ?_ GW110.out _ | refine keep_far ?_ GW115.out _) | exact HK.out)⟩, ⟨by repeat (first | (with_reducible first | exact HB.out | apply below_alloc | apply pw_below_drewN | apply below_drew1 | refine below_set ?_ (IsS63.ge HI0.out) | refine below_set ?_ GE110.out | refine below_set ?_ GE115.out) | exact HB.out)⟩⟩
               ·rw [if_neg c52] at H
                exact absurd H (by simp)
             ·replace c40 := Bool.eq_false_iff.mpr c40
              subst c40
              rw [if_neg (show ¬ (false = true) by decide)] at H
              simp only [Option.some.injEq, Prod.mk.injEq] at H
              obtain ⟨rfl, rfl, rfl, rfl, rfl⟩ := H
              have hnb65 := NB115_110.out
              have hnc65 := NB110_115.out
              have hnb66 := NB115_0.out
              have hnc66 := NB0_115.out
              have hcz67_0 : wc.cell? ⟨gb115, 0, none⟩ = some (.string t111) := (blk_cell BK115.out 0).trans rfl
              have hcz67_1 : wc.cell? ⟨gb115, 1, none⟩ = some (u116001) := (blk_cell BK115.out 1).trans rfl
              have hfz67_0 := blk_frozen BK115.out 0
              have hfz67_1 := blk_frozen BK115.out 1
              have hnb68 := NB110_0.out
              have hnc68 := NB0_110.out
              have hcz69_0 : wc.cell? ⟨gb110, 0, none⟩ = some (.string (⟨#[]⟩ : ByteArray)) := (blk_cell BK110.out 0).trans rfl
              have hcz69_1 : wc.cell? ⟨gb110, 1, none⟩ = some (.slice none 0 0) := (blk_cell BK110.out 1).trans rfl
              have hfz69_0 := blk_frozen BK110.out 0
              have hfz69_1 := blk_frozen BK110.out 1
              obtain ⟨Ao70, co70, eo70⟩ := Kd.R_slice HO_116001.out
              subst eo70
              go_wp2
              refine bodyPost_ret (results_cell_row rfl _ _ gb110 53 #[.string t111, .slice Ao70 x116001_5.length co70] (0, 0) _ rfl (by (with_reducible repeat (first | refine blk_drewN ?_ _ | refine blk_drew ?_ | refine blk_alloc ?_ _)); refine blk_put (cs := #[.string t111, .slice none 0 0]) ?_ 1 _ rfl; (with_reducible repeat (first | refine blk_drewN ?_ _ | refine blk_drew ?_ | refine blk_alloc ?_ _)); refine blk_put (cs := #[.string (⟨#[]⟩ : ByteArray), .slice none 0 0]) ?_ 0 _ rfl; (with_reducible repeat (first | refine blk_drewN ?_ _ | refine blk_drew ?_ | refine blk_alloc ?_ _)); exact BK110.out) Tryz.underlying53 rfl (by kernel_rfl)) rfl ?_
              exact ⟨_, by first | rfl | (simp [errW_none, errW_some] <;> rfl) | (simp [*, errW_none, errW_some] <;> rfl), by (with_reducible repeat (first | apply Kd.R_alloc | apply Kd.R_drewN | apply Kd.R_drew)); exact Kd.R_mono (Kd.R_far (p := ⟨gb110, 1, none⟩) (Kd.R_far (p := ⟨gb110, 0, none⟩) (Kd.R_types HO_116001.out BK110.out (by decide)) (fun _ hk => hk.2) (.string t111)) (fun _ hk => hk.2) (.slice Ao70 x116001_5.length co70)) (fun _ hk => trivial), by repeat (first | (with_reducible first | exact HI0.out | apply IsS63.alloc | apply IsS63.drewN | apply IsS63.drew | apply IsS63.set_0 | apply IsS63.set_1 | apply IsS63.set_2 | refine IsS63.far ?_ NB0_110.out _ | refine IsS63.far ?_ NB0_115.out _) | exact HI0.out), by repeat (first | (with_reducible first | exact HB.out | apply below_alloc | apply pw_below_drewN | apply below_drew1 | refine below_set ?_ (IsS63.ge HI0.out) | refine below_set ?_ GE110.out | refine below_set ?_ GE115.out) | exact HB.out), by repeat (first | (with_reducible first | exact HK.out | apply KeepBut.set_ | apply keep_drewN | apply keep_drew | apply keep_alloc | refine keep_far ?_ GW110.out _ | refine keep_far ?_ GW115.out _) | exact HK.out)⟩
end Go.Proofs.YtknmbalhbecdhaaGreatDoor.Print
end
section
set_option linter.unusedVariables false
set_option linter.unusedSimpArgs false
namespace Go.Proofs.YtknmbalhbecdhaaGreatDoor.Print
open Go.RowKit Go.Proofs.YtknmbalhbecdhaaGreatDoorW.PrintWords Go.Proofs.YtknmbalhbecdhaaGreatDoorW.PrintLast
abbrev LineR := ByteArray × List S53 × ByteArray × Int × Int
def noLine (a e : Int) : LineR := (⟨#[]⟩, [], ⟨#[]⟩, a, e)
/-- The parameters: the list, the state's text, where it stands, what is wrong. -/
def line_Parse.l0 : Nat → ByteArray → Int → Int → List S53 → Option (List S53 × ByteArray × Int × Int)
  | 0, _, _, _, _ => none
  | k + 1, s, a, fl, l => (line_reader_peek.f s a fl).bind fun p =>
      if p.1 = 59 then (if l.length < 3000000000000 ∧ a < 4611686018427387904 then (line_reader_param.f k s (a + 1) fl l).bind fun q => line_Parse.l0 k q.2.2.1 q.2.2.2.1 q.2.2.2.2 (l ++ [⟨q.1, q.2.1⟩]) else none)
      else some (l, s, a, fl)
/-- What follows behind the parameters. -/
def line_Parse.g (k : Nat) (a0 nm : ByteArray) (l : List S53) (s : ByteArray) (a fl : Int) : Option LineR :=
  if fl = 0 then (line_reader_peek.f s a fl).bind fun p =>
    if p.1 = 58 then (if 0 ≤ a ∧ a < (a0.size : Int) then (escape_Clean.f k (a0.extract (a.toNat + 1) a0.size) false).bind fun z => if z = 0 then some (nm, l, a0.extract (a.toNat + 1) a0.size, 0, 0) else some (noLine (a + 1) 7) else none)
    else some (noLine a 5)
  else some (noLine a fl)
def line_Parse.f (k : Nat) (a0 : ByteArray) : Option LineR :=
  if a0.size > 2000 then some (noLine 0 4)
  else (utf8_ValidString.f a0).bind fun ok => if ok = true then (line_reader_name.f a0 0 0).bind fun n => (line_Parse.l0 k n.2.1 n.2.2.1 n.2.2.2 []).bind fun q => line_Parse.g k a0 n.1 q.1 q.2.1 q.2.2.1 q.2.2.2 else some (noLine 0 3)
def ParseP (w : World) (r : LineR) (e : Ending) (w' : World) : Prop := ∃ v1_ : Value, e = .returned (.tuple #[.agg #[.string r.1, v1_, .string r.2.2.1], .int .i64 r.2.2.2.1, .int .i64 r.2.2.2.2]) ∧ Kd.S k53 53 w' w.heap.size (fun _ => True) v1_ r.2.1 ∧ Below w.heap.size w w'
theorem pblk_cell {w : World} {g : Nat} {cs : Array Value} {t : TypeId} {fr : Nat × Nat} (h : w.heap[g]? = some (.cells cs t fr)) (j : Nat) : w.cell? ⟨g, j, none⟩ = cs[j]? := by simp [World.cell?, h]
theorem pblk_froz {w : World} {g : Nat} {cs : Array Value} {t : TypeId} (h : w.heap[g]? = some (.cells cs t (0, 0))) (j : Nat) : w.frozen? ⟨g, j, none⟩ = false := by simp [World.frozen?, h]
theorem blkA {w : World} {g : Nat} {x : Obj} (hx : w.heap[g]? = some x) (o : Obj) : (w.alloc o).heap[g]? = some x := by
  rw [Below.heap_alloc _ _ _ (Array.getElem?_eq_some_iff.1 hx).1]; exact hx
theorem parse_long (s : ByteArray) (w : World) (hs : s.size > 2000) : Calls Tryz.prog 15 #[.string s] w (ParseP w (noLine 0 4)) := by
  have d1 : decide ((s.size : Int) > 2000) = true := decide_eq_true (by omega)
  go_enter Tryz.func15, Tryz.ntmps15
  go_wp2
  refine bodyPost_ret (v := .tuple #[.agg #[.string ⟨#[]⟩, .slice none 0 0, .string ⟨#[]⟩], .int .i64 0, .int .i64 4]) (by simp [results, Tryz.results15, go_sem]) rfl ⟨.slice none 0 0, rfl, Kd.S_nil _ _ _ _ _, (Below.refl _ _).alloc (Nat.le_refl _) _⟩
theorem parse_bad (s : ByteArray) (w : World) (hs : ¬ s.size > 2000) (hG : GG w) (hv : utf8_ValidString.f s = some false) : Calls Tryz.prog 15 #[.string s] w (ParseP w (noLine 0 3)) := by
  have d1 : decide ((s.size : Int) > 2000) = false := decide_eq_false (by omega)
  have HV := Aside0.mk hv
  have hnot : ∀ (x : Bool) (w : World), (Op.unary .not (.bool x)).run Tryz.prog w = .ok (.bool (!x)) w := fun _ _ => rfl
  clear hv hs
  go_enter Tryz.func15, Tryz.ntmps15
  go_wp2_with fail
  go_at_call 31
  refine (utf8_ValidString.calls s false _ (hG.alloc _) HV.out).mono ?_
  rintro e w2 ⟨rfl, hB⟩
  have HB := Aside0.mk (((below_alloc (Below.refl w.heap.size w) _).trans (hB.mono (by simp))))
  have hblk := (hB.block w.heap.size (by simp)).trans (heap_alloc_new w _)
  obtain ⟨R0, hR0⟩ : ∃ R0, R0 = w.heap.size := ⟨_, rfl⟩
  rw [← hR0] at hblk ⊢
  have HR0 := Aside0.mk hR0
  have c0 := pblk_cell hblk 0
  have c1 := pblk_cell hblk 1
  have c2 := pblk_cell hblk 2
  have f0 := pblk_froz hblk 0
  have f1 := pblk_froz hblk 1
  have f2 := pblk_froz hblk 2
  clear hB hblk hR0
  go_wp2_with fail
  refine bodyPost_ret (v := .tuple #[.agg #[.string ⟨#[]⟩, .slice none 0 0, .string ⟨#[]⟩], .int .i64 0, .int .i64 3]) (by simp [results, Tryz.results15, go_sem, c0, c1, c2]) rfl ⟨.slice none 0 0, rfl, Kd.S_nil _ _ _ _ _, ?_⟩
  repeat (first | exact HB.out | refine Below.setCell ?_ (by have := HR0.out; show w.heap.size ≤ R0; omega) _)
/-- A block that was there stays under what changes a state alone. -/
theorem keepBlk {w w' : World} {g b : Nat} {o : Obj} (hk : KeepBut w w' g none) (h : w.heap[b]? = some o) (hne : b ≠ g) : w'.heap[b]? = some o := (hk.2 b (Array.getElem?_eq_some_iff.1 h).1 hne (by simp)).trans h
theorem peek_same {s : ByteArray} {a fl : Int} {p : Int × ByteArray × Int × Int} (h : line_reader_peek.f s a fl = some p) : p = (p.1, s, a, fl) := by
  unfold line_reader_peek.f at h
  split at h
  · split at h
    · obtain rfl := Option.some.inj h; rfl
    · split at h
      · split at h
        · obtain rfl := Option.some.inj h; rfl
        · cases h
      · cases h
  · obtain rfl := Option.some.inj h; rfl
theorem peek_in {s : ByteArray} {a fl c : Int} (h : line_reader_peek.f s a fl = some (c, s, a, fl)) (hc : c ≠ 0) : fl = 0 ∧ 0 ≤ a ∧ a < (s.size : Int) := by
  unfold line_reader_peek.f at h
  split at h
  · rename_i h0
    split at h
    · simp only [Option.some.injEq, Prod.mk.injEq] at h; exact absurd h.1.symm hc
    · split at h
      · exact ⟨h0, by assumption, by omega⟩
      · cases h
  · simp only [Option.some.injEq, Prod.mk.injEq] at h; exact absurd h.1.symm hc
/-- Where the reading of parameters stands. -/
structure PSt (w : World) (g L R0 : Nat) (nm vl : ByteArray) (l : List S53) (s1 : ByteArray) (a fl : Int) (v : Value) (wr : World) : Prop where
  st : IsS63 w wr g s1 a fl
  bel : Below w.heap.size w wr
  res : wr.heap[R0]? = some (.cells #[.string ⟨#[]⟩, .slice none 0 0, .string ⟨#[]⟩] 32 (0, 0))
  loc : wr.heap[L]? = some (.cells #[.string nm, v, .string vl] 32 (0, 0))
  row : Kd.S k53 53 wr w.heap.size (fun _ => True) v l
  hL : w.heap.size ≤ L
  hR : w.heap.size ≤ R0
  ne : L ≠ g ∧ R0 ≠ g ∧ R0 ≠ L
theorem typesB : ∀ q, q ∈ 53 :: k53.E → q ≠ 63 := by decide
theorem typesL : ∀ q, q ∈ 53 :: k53.E → q ≠ 32 := by decide
theorem PSt.set_at {w : World} {g L R0 : Nat} {nm vl : ByteArray} {l : List S53} {s1 : ByteArray} {a fl : Int} {v : Value} {wr : World} (h : PSt w g L R0 nm vl l s1 a fl v wr) (b : Int) : PSt w g L R0 nm vl l s1 b fl v (wr.setCell ⟨g, 1, none⟩ (.int .i64 b)) :=
  ⟨h.st.set_1 b, below_set h.bel h.st.ge, by rw [Below.heap_setCell _ _ _ _ (by show R0 ≠ g; exact h.ne.2.1)]; exact h.res, by rw [Below.heap_setCell _ _ _ _ (by show L ≠ g; exact h.ne.1)]; exact h.loc, Kd.S_set h.row h.st.1 typesB 1 _, h.hL, h.hR, h.ne⟩
theorem PSt.drewN {w : World} {g L R0 : Nat} {nm vl : ByteArray} {l : List S53} {s1 : ByteArray} {a fl : Int} {v : Value} {wr : World} (h : PSt w g L R0 nm vl l s1 a fl v wr) (m : Nat) : PSt w g L R0 nm vl l s1 a fl v (wr.drewN m) :=
  ⟨h.st.drewN m, pw_below_drewN h.bel m, h.res, h.loc, Kd.S_drewN h.row m, h.hL, h.hR, h.ne⟩
theorem PSt.keep {w : World} {g L R0 : Nat} {nm vl : ByteArray} {l : List S53} {s1 s2 : ByteArray} {a fl a2 fl2 : Int} {v : Value} {wr w2 : World} (h : PSt w g L R0 nm vl l s1 a fl v wr) (hI : IsS63 w w2 g s2 a2 fl2) (hB : Below w.heap.size w w2) (hK : KeepBut wr w2 g none) : PSt w g L R0 nm vl l s2 a2 fl2 v w2 :=
  ⟨hI, hB, keepBlk hK h.res h.ne.2.1, keepBlk hK h.loc h.ne.1, Kd.S_mono (Kd.S_keep (Kd.S_types h.row h.st.1 typesB) hK (fun _ hk => hk.2)) (fun _ _ => trivial), h.hL, h.hR, h.ne⟩
theorem PSt.foot {w : World} {g L R0 : Nat} {nm vl : ByteArray} {l : List S53} {s1 : ByteArray} {a fl : Int} {A : Option Addr} {c : Nat} {wr : World} (h : PSt w g L R0 nm vl l s1 a fl (.slice A l.length c) wr) : ∀ W', KeepBut wr W' g none → Kd.C k53 W' A l.length l :=
  Kd.C_foot_own (Kd.S_R (Kd.S_types h.row h.st.1 typesB)) (fun _ hk => hk.2)
theorem PSt.app {w : World} {g L R0 : Nat} {nm vl : ByteArray} {l : List S53} {s1 : ByteArray} {a fl : Int} {v : Value} {W w5 : World} (h : PSt w g L R0 nm vl l s1 a fl v W) (hK : KeepBut W w5 g none) {v1 : Value} {r1 : ByteArray} {r2 : List ByteArray} (hR : Kd.R Kd.string 9 w5 W.heap.size (fun _ => True) v1 r2) :
    k53.M w5 w.heap.size (fun k => W.heap.size ≤ k) ⟨r1, r2⟩ [.string r1, v1] ∧ (∀ k, W.heap.size ≤ k → True ∧ some k ≠ v.ownBlock) ∧ Kd.S k53 53 w5 w.heap.size (fun k => True ∧ ¬ W.heap.size ≤ k) v l := by
  refine ⟨?_, fun k hk => ⟨trivial, fun e => ?_⟩, ?_⟩
  · exact k53_mkM w5 w.heap.size _ ⟨r1, r2⟩ (Kd.R_lower (Kd.R_mono (Kd.R_bound hR) (fun k hk => hk.2.1)) h.bel.size)
  · have := Kd.S_lt h.row k e.symm; omega
  · have h1 : Kd.S k53 53 W w.heap.size (fun k => True ∧ ¬ W.heap.size ≤ k) v l := Kd.S_mono (Kd.S_bound h.row) (fun k hk => ⟨trivial, by have := hk.2.2.1; omega⟩)
    exact Kd.S_mono (Kd.S_keep (Kd.S_types h1 h.st.1 typesB) hK (fun _ hk => hk.2)) (fun _ hk => hk.1)
theorem PSt.appd {w : World} {g L R0 : Nat} {nm vl : ByteArray} {l : List S53} {s1 : ByteArray} {a fl : Int} {v v2 : Value} {w5 w6 : World} {p : S53} (h : PSt w g L R0 nm vl l s1 a fl v w5) (hS : Kd.S k53 53 w6 w.heap.size (fun _ => True) v2 (l ++ [p])) (hB : Below w.heap.size w w6) (hg : w5.grownBy w6 v.ownBlock) :
    PSt w g L R0 nm vl (l ++ [p]) s1 a fl v2 (w6.setCell ⟨L, 1, none⟩ v2) := by
  have hne := Kd.S_ne h.row h.st.1 (by decide : 53 ≠ 63)
  have hnL := Kd.S_ne h.row h.loc (by decide : 53 ≠ 32)
  have hnR := Kd.S_ne h.row h.res (by decide : 53 ≠ 32)
  have hL6 : w6.heap[L]? = some (.cells #[.string nm, v, .string vl] 32 (0, 0)) := (hg.block L (Array.getElem?_eq_some_iff.1 h.loc).1 hnL).trans h.loc
  have hR6 : w6.heap[R0]? = some (.cells #[.string ⟨#[]⟩, .slice none 0 0, .string ⟨#[]⟩] 32 (0, 0)) := (hg.block R0 (Array.getElem?_eq_some_iff.1 h.res).1 hnR).trans h.res
  refine ⟨(h.st.grown hg hne).far (Ne.symm h.ne.1) _, hB.setCell (p := ⟨L, 1, none⟩) h.hL _, ?_, ?_, Kd.S_set hS hL6 typesL 1 _, h.hL, h.hR, h.ne⟩
  · rw [Below.heap_setCell _ _ _ _ (by show R0 ≠ L; exact h.ne.2.2)]; exact hR6
  · have : (w6.setCell ⟨L, 1, none⟩ v2).heap[L]? = some (.cells (#[.string nm, v, .string vl].setIfInBounds 1 v2) 32 (0, 0)) := by
      simp [World.setCell, Array.getElem?_modify, hL6]
    rw [this]; rfl
theorem PSt.below {w : World} {g L R0 : Nat} {nm vl : ByteArray} {l : List S53} {s1 : ByteArray} {a fl : Int} {v : Value} {wr w2 : World} (h : PSt w g L R0 nm vl l s1 a fl v wr) (hb : Below wr.heap.size wr w2) : PSt w g L R0 nm vl l s1 a fl v w2 :=
  h.keep (h.st.below hb) (h.bel.trans (hb.mono h.bel.size)) (KeepBut.of_below hb g none)
theorem PSt.setVal {w : World} {g L R0 : Nat} {nm vl : ByteArray} {l : List S53} {s1 : ByteArray} {a fl : Int} {v : Value} {wr : World} (h : PSt w g L R0 nm vl l s1 a fl v wr) (u : ByteArray) : PSt w g L R0 nm u l s1 a fl v (wr.setCell ⟨L, 2, none⟩ (.string u)) := by
  refine ⟨h.st.far (Ne.symm h.ne.1) _, h.bel.setCell (p := ⟨L, 2, none⟩) h.hL _, ?_, ?_, Kd.S_set h.row h.loc typesL 2 _, h.hL, h.hR, h.ne⟩
  · rw [Below.heap_setCell _ _ _ _ (by show R0 ≠ L; exact h.ne.2.2)]; exact h.res
  · have : (wr.setCell ⟨L, 2, none⟩ (.string u)).heap[L]? = some (.cells (#[.string nm, v, .string vl].setIfInBounds 2 (.string u)) 32 (0, 0)) := by
      simp [World.setCell, Array.getElem?_modify, h.loc]
    rw [this]; rfl
set_option maxHeartbeats 8000000 in
set_option maxRecDepth 100000 in
theorem parse_walk (k : Nat) (s : ByteArray) (w : World) (hs : ¬ s.size > 2000) (hG : GG w) (hv : utf8_ValidString.f s = some true) (nm s1 : ByteArray) (a1 fl1 : Int) (hn : line_reader_name.f s 0 0 = some (nm, s1, a1, fl1))
    (q : List S53 × ByteArray × Int × Int) (hq : line_Parse.l0 k s1 a1 fl1 [] = some q) (r : LineR) (hr : line_Parse.g k s nm q.1 q.2.1 q.2.2.1 q.2.2.2 = some r) :
    Calls Tryz.prog 15 #[.string s] w (ParseP w r) := by
  have d1 : decide ((s.size : Int) > 2000) = false := decide_eq_false (by omega)
  have HV := Aside0.mk hv
  have HN := Aside0.mk hn
  have HQ := Aside0.mk hq
  have HRR := Aside0.mk hr
  have HGG := Aside0.mk hG
  have hnot : ∀ (x : Bool) (w : World), (Op.unary .not (.bool x)).run Tryz.prog w = .ok (.bool (!x)) w := fun _ _ => rfl
  clear hv hn hq hr hG
  go_enter Tryz.func15, Tryz.ntmps15
  go_wp2_with fail
  go_at_call 31
  refine (utf8_ValidString.calls s true _ (HGG.out.alloc _) HV.out).mono ?_
  rintro e w2 ⟨rfl, hB⟩
  have HB := Aside0.mk (((below_alloc (Below.refl w.heap.size w) _).trans (hB.mono (by simp))))
  have hblk := (hB.block w.heap.size (by simp)).trans (heap_alloc_new w _)
  obtain ⟨R0, hR0⟩ : ∃ R0, R0 = w.heap.size := ⟨_, rfl⟩
  rw [← hR0] at hblk ⊢
  have HR0 := Aside0.mk hR0
  have HRB := Aside0.mk hblk
  have hlt2 : R0 < w2.heap.size := (Array.getElem?_eq_some_iff.1 hblk).1
  clear hB hblk hR0
  go_wp2_with fail
  go_at_call 32
  obtain ⟨g, hg⟩ : ∃ g, g = w2.heap.size := ⟨_, rfl⟩
  have hI0 := IsS63.new w w2 s 0 0 HB.out
  have hB0 := HB.out.alloc HB.out.size (.cells #[.string s, .int .i64 0, .int .i64 0] 63)
  have hRB0 := blkA HRB.out (.cells #[.string s, .int .i64 0, .int .i64 0] 63)
  rw [← hg] at hI0 ⊢
  have HGs := Aside0.mk hg
  refine (line_reader_name.calls g s 0 0 nm s1 a1 fl1 w _ HGG.out hI0 hB0 HN.out).mono ?_
  rintro e w3 ⟨rfl, hI3, hB3, hK3⟩
  have HI3 := Aside0.mk hI3
  have HB3 := Aside0.mk hB3
  have HRB3 := Aside0.mk (keepBlk hK3 hRB0 (by omega))
  have hlt3 : g < w3.heap.size := hI3.lt
  clear hI0 hB0 hRB0 hI3 hB3 hK3 hg
  go_wp2_with fail
  obtain ⟨L, hL⟩ : ∃ L, L = w3.heap.size := ⟨_, rfl⟩
  have HP0 : Aside0 (PSt w g L R0 nm ⟨#[]⟩ [] s1 a1 fl1 (.slice none 0 0) (w3.alloc (.cells #[.string nm, .slice none 0 0, .string ⟨#[]⟩] 32))) := ⟨by
    have hsz := HB3.out.size
    refine ⟨HI3.out.alloc _, HB3.out.alloc hsz _, blkA HRB3.out _, by rw [hL]; exact heap_alloc_new _ _, Kd.S_nil _ _ _ _ _, by omega, by have := HR0.out; omega, by omega, by have := HGs.out; omega, by have := HGs.out; omega⟩⟩
  rw [← hL] at ⊢
  clear hL
  go_loopg [25] k (fun kk v25 wr => ∃ (l : List S53) (s2 : ByteArray) (a fl : Int) (v : Value), Aside0 (PSt w g L R0 nm ⟨#[]⟩ l s2 a fl v wr) ∧ Aside0 (line_Parse.l0 kk s2 a fl l = some q))
  case atStart => exact ⟨[], s1, a1, fl1, _, HP0, HQ⟩
  case round =>
    obtain ⟨l, s2, a, fl, v, HP, HQr⟩ := hrel
    clear HP0 HQ
    have hst := HP.out.st
    cases gk with
    | zero => exact absurd HQr.out (by simp [line_Parse.l0])
    | succ kk =>
    obtain ⟨p, hp, hqr⟩ := Option.bind_eq_some_iff.1 (show (line_reader_peek.f s2 a fl).bind _ = some q from HQr.out)
    have hps := peek_same hp
    obtain ⟨pk, rfl⟩ : ∃ pk, p = (pk, s2, a, fl) := ⟨p.1, hps⟩
    dsimp only at hqr
    clear hps
    have HPK := Aside0.mk hp
    clear hp HQr
    by_cases h59 : pk = 59
    · rw [if_pos h59] at hqr
      subst h59
      by_cases hgd : l.length < 3000000000000 ∧ a < 4611686018427387904
      · rw [if_pos hgd] at hqr
        obtain ⟨x, hx, hqr⟩ := Option.bind_eq_some_iff.1 hqr
        have HX := Aside0.mk hx
        have HQ2 := Aside0.mk hqr
        obtain ⟨hgl, hga⟩ := hgd
        have hgl2 := Aside0.mk hgl
        have ha0 : 0 ≤ a := (peek_in HPK.out (by decide)).2.1
        clear hx hqr hgl hst
        go_wp2_with fail
        go_at_call 33
        refine (line_reader_peek.calls g s2 a fl 59 s2 a fl w _ HGG.out HP.out.st HP.out.bel HPK.out).mono ?_
        rintro e w4 ⟨rfl, hI4, hB4, hK4⟩
        have HP4 := Aside0.mk (HP.out.keep hI4 hB4 hK4)
        have hcz1 := cellS63_1 hI4.1
        have hfz1 := blk_frozen hI4.1 1
        clear hI4 hB4 hK4
        go_wp2_with fail
        have HPW := Aside0.mk (HP4.out.set_at (a + 1))
        obtain ⟨W, hW⟩ : ∃ W, W = w4.setCell ⟨g, 1, none⟩ (.int .i64 (a + 1)) := ⟨_, rfl⟩
        rw [← hW] at HPW ⊢
        clear hW hcz1 hfz1
        obtain ⟨A, c, rfl, hcl, hC⟩ := Kd.S_reads HPW.out.row
        have hLc : W.cell? ⟨L, 1, none⟩ = some (.slice A l.length c) := by rw [pblk_cell HPW.out.loc]; rfl
        have hLl : L < W.heap.size := (Array.getElem?_eq_some_iff.1 HPW.out.loc).1
        have HCL := Aside0.mk hcl
        clear hcl hC
        go_region_law (first | (refine Kd.S_append_step k53 (w0 := w) (W := w5) w.heap.size (by rfl) (.tmp 34) (.tmp 39) 30 53 (.agg #[.string ⟨#[]⟩, .slice none 0 0]) 40 (by rfl) Tryz.underlying30 info53 (by rfl) (by decide) (by decide) (.slice A l.length c) l ⟨x.1, x.2.1⟩ [.string x.1, v1] (fun _ => True) (fun k => W.heap.size ≤ k) (by rfl) (by rfl) HAp.out.1 HAp.out.2.1 (fun _ _ => trivial) HAp.out.2.2 H5.out.bel H5.out.bel.size (by have := hgl2.out; omega) ?_; intro v2 w6 hS6 hB6 hg6 hat6; obtain ⟨A6, c7, rfl, _, _⟩ := Kd.S_reads hS6; have hL6 := (hg6.block L (Array.getElem?_eq_some_iff.1 H5.out.loc).1 (Kd.S_ne H5.out.row H5.out.loc (by decide : 53 ≠ 32))).trans H5.out.loc; have c6 : w6.cell? ⟨L, 1, none⟩ = some (.slice A l.length c) := (pblk_cell hL6 1).trans rfl; have f6 := pblk_froz hL6 1; have H6 := Aside0.mk (H5.out.appd hS6 hB6 hg6); clear hL6 hS6 hB6 hg6 hat6) | (go_simp; go_at_call 34; refine (line_reader_param.calls kk g s2 (a + 1) fl A c l x.1 x.2.1 x.2.2.1 x.2.2.2.1 x.2.2.2.2 w _ HGG.out (HPW.out.drewN _).st (HPW.out.drewN _).bel (HPW.out.drewN _).foot HCL.out HX.out).mono ?_; rintro e w5 ⟨v1, rfl, hR1, hI5, hB5, hK5⟩; have H5 := Aside0.mk ((HPW.out.drewN _).keep hI5 hB5 hK5); have HAp := Aside0.mk (HPW.out.app (r1 := x.1) hK5 hR1); clear hI5 hB5 hK5 hR1; have c5 : w5.cell? ⟨L, 1, none⟩ = some (.slice A l.length c) := (pblk_cell H5.out.loc 1).trans rfl; have hl5 : L < w5.heap.size := (Array.getElem?_eq_some_iff.1 H5.out.loc).1))
        all_goals
          go_wp2_with fail
          go_roundg kk
          case measure => omega
          case rel => exact ⟨l ++ [⟨x.1, x.2.1⟩], _, _, _, .slice A6 (l.length + 1) c7, ⟨by have h := H6.out; rw [List.length_append] at h; exact h⟩, HQ2⟩
      · rw [if_neg hgd] at hqr; cases hqr
    · rw [if_neg h59] at hqr
      obtain rfl := Option.some.inj hqr
      have h59b : (pk == 59) = false := beq_eq_false_iff_ne.2 h59
      clear hqr h59 hst
      go_wp2_with fail
      go_at_call 33
      refine (line_reader_peek.calls g s2 a fl pk s2 a fl w _ HGG.out HP.out.st HP.out.bel HPK.out).mono ?_
      rintro e w4 ⟨rfl, hI4, hB4, hK4⟩
      have HP4 := Aside0.mk (HP.out.keep hI4 hB4 hK4)
      have hcz1 := cellS63_1 hI4.1
      have hcz2 := cellS63_2 hI4.1
      have hfz1 := blk_frozen hI4.1 1
      clear hI4 hB4 hK4
      have hrr := HRR.out
      unfold line_Parse.g at hrr
      by_cases hf : fl = 0
      · subst hf
        rw [if_pos rfl] at hrr
        obtain ⟨p, hp, hrr⟩ := Option.bind_eq_some_iff.1 hrr
        obtain rfl : p = (pk, s2, a, 0) := Option.some.inj (hp.symm.trans HPK.out)
        clear hp
        dsimp only at hrr
        by_cases h58 : pk = 58
        · rw [if_pos h58] at hrr
          subst h58
          by_cases hgd : 0 ≤ a ∧ a < (s.size : Int)
          · rw [if_pos hgd] at hrr
            obtain ⟨z, hz, hrr⟩ := Option.bind_eq_some_iff.1 hrr
            obtain ⟨b, rfl⟩ : ∃ b : Nat, a = (b : Int) := ⟨a.toNat, by omega⟩
            rw [Int.toNat_natCast] at hz hrr
            have hbs : b < s.size := by omega
            have HZ := Aside0.mk hz
            have HRZ := Aside0.mk hrr
            have hs2 : s.size ≤ 2000 := by omega
            have hLc := pblk_cell HP4.out.loc 2
            clear hz hrr hgd
            go_wp2_with (go_at_call 33; refine (line_reader_peek.calls g s2 b 0 58 s2 b 0 w _ HGG.out HP4.out.st HP4.out.bel HPK.out).mono ?_; rintro e w5 ⟨rfl, hI5, hB5, hK5⟩; have HP5 := Aside0.mk (HP4.out.keep hI5 hB5 hK5); have k1 := cellS63_1 hI5.1; have k2 := cellS63_2 hI5.1; have kf := blk_frozen hI5.1 1; have l2 := pblk_cell HP5.out.loc 2; have lf := pblk_froz HP5.out.loc 2; have hLg := HP5.out.ne.1; clear hI5 hB5 hK5)
            have HP7 := Aside0.mk ((HP5.out.set_at ((b : Int) + 1)).setVal (s.extract (b + 1) s.size))
            obtain ⟨W7, hW7⟩ : ∃ W7, W7 = (w5.setCell ⟨g, 1, none⟩ (.int .i64 ((b : Int) + 1))).setCell ⟨L, 2, none⟩ (.string (s.extract (b + 1) s.size)) := ⟨_, rfl⟩
            rw [← hW7] at HP7 ⊢
            clear hW7 k1 k2 kf l2 lf
            go_at_call 25
            refine (escape_Clean.calls k _ false z W7 (HGG.out.below HP7.out.bel) HZ.out).mono ?_
            rintro e w8 ⟨rfl, hB8⟩
            have HP8 := Aside0.mk (HP7.out.below hB8)
            clear hB8
            have k1 := cellS63_1 HP8.out.st.1
            have k2 := cellS63_2 HP8.out.st.1
            have l0 := pblk_cell HP8.out.loc 0
            have l1 := pblk_cell HP8.out.loc 1
            have l2 := pblk_cell HP8.out.loc 2
            by_cases hz0 : z = 0
            · subst hz0
              rw [if_pos rfl] at HRZ
              obtain rfl := Option.some.inj HRZ.out
              obtain ⟨A, c, rfl, hcl, hC⟩ := Kd.S_reads HP8.out.row
              have r0 := pblk_cell HP8.out.res 0
              have r1 := pblk_cell HP8.out.res 1
              have r2 := pblk_cell HP8.out.res 2
              have z0 := pblk_froz HP8.out.res 0
              have z1 := pblk_froz HP8.out.res 1
              have z2 := pblk_froz HP8.out.res 2
              clear hcl hC
              go_wp2_with fail
              refine bodyPost_ret (v := .tuple #[.agg #[.string nm, .slice A l.length c, .string (s.extract (b + 1) s.size)], .int .i64 0, .int .i64 0]) (by simp [results, Tryz.results15, go_sem, r0, r1, r2]) rfl ⟨_, rfl, ?_, ?_⟩
              · have hrow := Kd.S_types HP8.out.row HP8.out.res typesL
                refine Kd.S_mono (ok := fun k => True ∧ k ≠ R0) ?_ (fun _ _ => trivial)
                repeat (first | exact hrow | refine Kd.S_far ?_ (fun _ hk => hk.2) _)
              · repeat (first | exact HP8.out.bel | refine Below.setCell ?_ (by exact HP8.out.hR) _)
            · rw [if_neg hz0] at HRZ
              obtain rfl := Option.some.inj HRZ.out
              have hz1 : (z != 0) = true := bne_iff_ne.2 hz0
              clear hz0
              go_wp2_with (go_at_call 35; refine (line_reader_wrong.calls g s2 (b + 1) 0 7 (b + 1) s2 (b + 1) 7 w _ HGG.out HP8.out.st HP8.out.bel rfl).mono ?_; rintro e w6 ⟨rfl, hI6, hB6, hK6⟩; have HPF := Aside0.mk (HP8.out.keep hI6 hB6 hK6); have m2 := cellS63_2 hI6.1; clear hI6 hB6 hK6)
              have fc1 := cellS63_1 HPF.out.st.1
              have fc2 := cellS63_2 HPF.out.st.1
              have r0 := pblk_cell HPF.out.res 0
              have r1 := pblk_cell HPF.out.res 1
              have r2 := pblk_cell HPF.out.res 2
              have z0 := pblk_froz HPF.out.res 0
              have z1 := pblk_froz HPF.out.res 1
              have z2 := pblk_froz HPF.out.res 2
              have hgl := HPF.out.st.lt
              have nRg := HPF.out.ne.2.1
              go_wp2_with fail
              go_region
              all_goals
                go_wp2_with fail
                refine bodyPost_ret (v := .tuple #[.agg #[.string ⟨#[]⟩, .slice none 0 0, .string ⟨#[]⟩], .int .i64 ((b : Int) + 1), .int .i64 (7)]) (by simp [results, Tryz.results15, go_sem, r0, r1, r2]) rfl ⟨.slice none 0 0, rfl, Kd.S_nil _ _ _ _ _, ?_⟩
                repeat (first | exact HPF.out.bel | exact below_drew HPF.out.bel | refine below_drew ?_ | refine Below.setCell ?_ (by exact HPF.out.hR) _)
          · rw [if_neg hgd] at hrr; cases hrr
        · rw [if_neg h58] at hrr
          obtain rfl := Option.some.inj hrr
          have h58b : (pk != 58) = true := bne_iff_ne.2 h58
          clear hrr h58
          go_wp2_with (first
            | (go_at_call 33; refine (line_reader_peek.calls g s2 a 0 pk s2 a 0 w _ HGG.out HP4.out.st HP4.out.bel HPK.out).mono ?_; rintro e w5 ⟨rfl, hI5, hB5, hK5⟩; have HP5 := Aside0.mk (HP4.out.keep hI5 hB5 hK5); have k1 := cellS63_1 hI5.1; have k2 := cellS63_2 hI5.1; clear hI5 hB5 hK5)
            | (go_at_call 35; refine (line_reader_wrong.calls g s2 a 0 5 a s2 a 5 w _ HGG.out HP5.out.st HP5.out.bel rfl).mono ?_; rintro e w6 ⟨rfl, hI6, hB6, hK6⟩; have HPF := Aside0.mk (HP5.out.keep hI6 hB6 hK6); have m2 := cellS63_2 hI6.1; clear hI6 hB6 hK6))
          have fc1 := cellS63_1 HPF.out.st.1
          have fc2 := cellS63_2 HPF.out.st.1
          have r0 := pblk_cell HPF.out.res 0
          have r1 := pblk_cell HPF.out.res 1
          have r2 := pblk_cell HPF.out.res 2
          have z0 := pblk_froz HPF.out.res 0
          have z1 := pblk_froz HPF.out.res 1
          have z2 := pblk_froz HPF.out.res 2
          have hgl := HPF.out.st.lt
          have nRg := HPF.out.ne.2.1
          go_wp2_with fail
          go_region
          all_goals
            go_wp2_with fail
            refine bodyPost_ret (v := .tuple #[.agg #[.string ⟨#[]⟩, .slice none 0 0, .string ⟨#[]⟩], .int .i64 (a), .int .i64 (5)]) (by simp [results, Tryz.results15, go_sem, r0, r1, r2]) rfl ⟨.slice none 0 0, rfl, Kd.S_nil _ _ _ _ _, ?_⟩
            repeat (first | exact HPF.out.bel | exact below_drew HPF.out.bel | refine below_drew ?_ | refine Below.setCell ?_ (by exact HPF.out.hR) _)
      · obtain rfl := Option.some.inj (show some (noLine a fl) = some r by rw [if_neg hf] at hrr; exact hrr)
        have hf1 : (fl == 0) = false := beq_eq_false_iff_ne.2 hf
        have hf2 : (fl != 0) = true := bne_iff_ne.2 hf
        have HPF := HP4
        clear hrr hf
        have fc1 := cellS63_1 HPF.out.st.1
        have fc2 := cellS63_2 HPF.out.st.1
        have r0 := pblk_cell HPF.out.res 0
        have r1 := pblk_cell HPF.out.res 1
        have r2 := pblk_cell HPF.out.res 2
        have z0 := pblk_froz HPF.out.res 0
        have z1 := pblk_froz HPF.out.res 1
        have z2 := pblk_froz HPF.out.res 2
        have hgl := HPF.out.st.lt
        have nRg := HPF.out.ne.2.1
        go_wp2_with fail
        go_region
        all_goals
          go_wp2_with fail
          refine bodyPost_ret (v := .tuple #[.agg #[.string ⟨#[]⟩, .slice none 0 0, .string ⟨#[]⟩], .int .i64 (a), .int .i64 (fl)]) (by simp [results, Tryz.results15, go_sem, r0, r1, r2]) rfl ⟨.slice none 0 0, rfl, Kd.S_nil _ _ _ _ _, ?_⟩
          repeat (first | exact HPF.out.bel | exact below_drew HPF.out.bel | refine below_drew ?_ | refine Below.setCell ?_ (by exact HPF.out.hR) _)
theorem line_Parse.calls (k : Nat) (a0 : ByteArray) (r1 : ByteArray) (r2 : List S53) (r3 : ByteArray) (r4 : Int) (r5 : Int) (w : World) (hG : GG w) (h : line_Parse.f k a0 = some (r1, r2, r3, r4, r5)) :
    Calls Tryz.prog 15 #[.string a0] w fun e w' => ∃ v1_ : Value, e = .returned (.tuple #[.agg #[.string r1, v1_, .string r3], .int .i64 r4, .int .i64 r5]) ∧ Kd.S k53 53 w' w.heap.size (fun _ => True) v1_ r2 ∧ Below w.heap.size w w' := by
  unfold line_Parse.f at h
  by_cases hs : a0.size > 2000
  · rw [if_pos hs] at h
    have e := Option.some.inj h
    have hp := parse_long a0 w hs
    rw [e] at hp
    exact hp
  · rw [if_neg hs] at h
    obtain ⟨ok, hok, h⟩ := Option.bind_eq_some_iff.1 h
    cases ok with
    | false =>
      have e := Option.some.inj (show some (noLine 0 3) = some (r1, r2, r3, r4, r5) from h)
      have hp := parse_bad a0 w hs hG hok
      rw [e] at hp
      exact hp
    | true =>
      rw [if_pos rfl] at h
      obtain ⟨n, hn, h⟩ := Option.bind_eq_some_iff.1 h
      obtain ⟨q, hq, h⟩ := Option.bind_eq_some_iff.1 h
      exact parse_walk k a0 w hs hG hok n.1 n.2.1 n.2.2.1 n.2.2.2 hn q hq _ h
theorem line_Parse.mono_l : ∀ k s a fl l, LeO (line_Parse.l0 k s a fl l) (line_Parse.l0 (k + 1) s a fl l)
  | 0, _, _, _, _ => fun r h => by simp [line_Parse.l0] at h
  | k + 1, s, a, fl, l => by
    unfold line_Parse.l0
    refine LeO.bind (LeO.refl _) (fun p => ?_)
    refine LeO.ite ?_ (LeO.refl _)
    refine LeO.ite ?_ (LeO.refl _)
    exact LeO.bind (line_reader_param.mono _ _ _ _ _) (fun _ => line_Parse.mono_l k _ _ _ _)
theorem line_Parse.mono : ∀ a0 k, LeO (line_Parse.f k a0) (line_Parse.f (k + 1) a0) := by
  intro a0 k
  unfold line_Parse.f
  refine LeO.ite (LeO.refl _) ?_
  refine LeO.bind (LeO.refl _) (fun ok => ?_)
  refine LeO.ite ?_ (LeO.refl _)
  refine LeO.bind (LeO.refl _) (fun n => ?_)
  refine LeO.bind (line_Parse.mono_l _ _ _ _ _) (fun q => ?_)
  unfold line_Parse.g
  refine LeO.ite ?_ (LeO.refl _)
  refine LeO.bind (LeO.refl _) (fun p => ?_)
  refine LeO.ite ?_ (LeO.refl _)
  refine LeO.ite ?_ (LeO.refl _)
  exact LeO.bind (escape_Clean.mono _ _ _) (fun _ => LeO.refl _)
end Go.Proofs.YtknmbalhbecdhaaGreatDoor.Print
end
