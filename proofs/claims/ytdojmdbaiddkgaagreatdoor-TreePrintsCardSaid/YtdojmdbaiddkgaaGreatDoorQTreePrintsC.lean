/- Texts of the proof of TreePrints, put together: Param Bld LPrint Print10 Print9 FoldOne FoldFold Print11 Print14 PFormT Print16. -/
import Derived.Test.YtdojmdbaiddkgaaGreatDoorProg
import Derived.Below
import Derived.Deep.Draws
import Derived.Deep.AppendLies
import Derived.Maps.AppendAt
import Derived.OwnWalk
import Derived.Laws.BytesArg
import Derived.Laws.MakeOwn
import Derived.Laws.OwnMore
import Derived.Deep.OwnRows
import Derived.Tactics
import Derived.Lib.ConvBytes
import Derived.Laws.Slices
import Derived.WalkKit
import Derived.KernelRfl
import Derived.RowKit3
import Derived.Deep.LoopGhost
import Derived.Deep.QuietTactic
import Derived.BigQuiet
import Derived.WideLaws
import Derived.Deep.DeepCutAuto
import Derived.Deep.CutBlock
import Derived.Deep.RegionHeld3
import Derived.Laws.Rows
import Derived.Lib.AppendStr
import Derived.ArgAppend
import Derived.Laws.IdiomCopy
import Derived.OrdersHeld
import Derived.Laws.BitsLemmas
import Derived.RowKit
import Derived.Shelf.Unicode.ValidAny
import Derived.Shelf.Strings.Builder1
import Derived.Shelf.Strings.Builder2
import Derived.Shelf.Small.Utf8
import Derived.Shelf.Small.Strs
import Derived.Shelf.Strings.BuilderF
import Derived.Shelf.Strings.BuilderK
import Derived.Shelf.Strings.Builder2Cap
import Derived.Shelf.Strings.Search1
import Derived.Shelf.Strings.Search2
import Derived.Shelf.Strings.Search3
import Derived.Shelf.Strings.Count
import Derived.Shelf.LaysM
import Derived.Shelf.Strings.Shaped
import Derived.Shelf.Strings.Prefix
import Derived.Shelf.Strings.Runes
import Derived.Shelf.Strings.IndexAny
import Derived.Shelf.Strings.AsciiSet
import Derived.Shelf.Strings.IndexAnyAll
import Derived.Shelf.Unicode.DecodeSlow
import Derived.Shelf.Unicode.DecodeAny
import Derived.Shelf.Strings.BuilderCap
import Derived.Shelf.Slices.Equal
import Derived.Shelf.Slices.Empties2
import Derived.WalkSpells
import Derived.Laws.Runes
import Derived.Laws.RangeAny
import Derived.Laws.RangeString
import Derived.Lib.IndexAny
import Derived.Lib.SpaceUEq
import Derived.Lib.RuneCount
import Derived.Lib.QuoteLoop
import Derived.Lib.Hide
import Derived.Lib.OthersKept
import Derived.Lib.DecodeN
import Derived.IntWalk
import Derived.Test.YtdojmdbaiddkgaaGreatDoorWWords
import Derived.Test.YtdojmdbaiddkgaaGreatDoorWLast
import Derived.Test.YtdojmdbaiddkgaaGreatDoorWTab
import Derived.Test.YtdojmdbaiddkgaaGreatDoorWApart
import Derived.Test.YtdojmdbaiddkgaaGreatDoorWRepsOne
import Derived.Test.YtdojmdbaiddkgaaGreatDoorWGuard
import Derived.Laws.CopyRow
import Derived.Laws.CopyOwn
import Derived.Deep.RegionWith
import Derived.Deep.WholeRow
import Derived.Outline
import Derived.Tactics2
import Derived.Defers
import Derived.Laws.Pointers
import Derived.Laws.LoneSync
import Derived.RegionTactic
import Derived.RegionCalls
import Derived.Laws.NewBlocks
import Derived.Lib.TrimUEq
import Derived.Lib.MapLaws
import Derived.Lib.SmallJoins
import Derived.Shelf.Unicode.DecodeLastEight
import Derived.Lib.ValidU
import Derived.Lib.ValidLaws
import Derived.Laws.IdiomStrings
import Derived.Test.YtdojmdbaiddkgaaGreatDoorQTreePrintsB
section
set_option linter.unusedVariables false
set_option linter.unusedSimpArgs false
namespace Go.Proofs.YtdojmdbaiddkgaaGreatDoor.Print
open Go.RowKit Go.Proofs.YtdojmdbaiddkgaaGreatDoorW.PrintWords Go.Proofs.YtdojmdbaiddkgaaGreatDoorW.PrintLast
theorem contains_quo (l : List UInt8) : Lib.containsAny l [58, 59, 44] = l.any quoB := by
  unfold Lib.containsAny
  induction l with
  | nil => rfl
  | cons b t ih =>
    have hge := Lib.indexAny_ge [58, 59, 44] t
    have hc : ([58, 59, 44] : List UInt8).contains b = quoB b := by
      simp only [List.contains, List.elem_cons, List.elem_nil, quoB, Bool.or_false]
      cases b == 58 <;> cases b == 59 <;> cases b == 44 <;> rfl
    rw [List.any_cons, ← ih, Lib.indexAny, hc]
    cases quoB b with
    | true => simp
    | false =>
      simp only [Bool.false_eq_true, if_false, Bool.false_or]
      by_cases hm : Lib.indexAny t [58, 59, 44] = -1
      · rw [hm]; rfl
      · rw [if_neg (by simpa using hm)]
        rw [decide_eq_true (by omega), decide_eq_true (by omega)]
theorem parB_quo (c : UInt8) : (parB c).any quoB = quoB c := by
  by_cases h1 : c = 94
  · subst h1; rfl
  by_cases h2 : c = 10
  · subst h2; rfl
  by_cases h3 : c = 34
  · subst h3; rfl
  unfold parB
  rw [if_neg h1, if_neg h2, if_neg h3]; simp
theorem parT_quo (l : List UInt8) : (parT l).any quoB = l.any quoB := by
  induction l with
  | nil => rfl
  | cons c t ih => rw [parT_cons, List.any_append, List.any_cons, ih, parB_quo]
theorem Param_bad (k : Nat) (s : ByteArray) (z : Int) (hz : z ≠ 0) (w : World) (hG : GG w) (hC : Aside0 (escape_Clean.f k s true = some z)) :
    Calls Tryz.prog 64 #[.string s] w fun e w' => e = .returned (.tuple #[.string ⟨#[]⟩, .int .i64 z]) ∧ Below w.heap.size w w' := by
  have hz1 : (z == 0) = false := beq_eq_false_iff_ne.2 hz
  have hz2 : (z != 0) = true := bne_iff_ne.2 hz
  clear hz
  go_enter Tryz.func64, Tryz.ntmps64
  go_wp2_with (go_at_call 55; refine (escape_Clean.calls k s true z _ hG hC.out).mono ?_; rintro e w1 ⟨rfl, hb1⟩)
  go_ret2
  exact ⟨rfl, hb1⟩
/-- The six strings, as Param lays them. -/
def sixB : Array Value := #[.string ⟨#[94]⟩, .string ⟨#[94, 94]⟩, .string ⟨#[10]⟩, .string ⟨#[94, 110]⟩, .string ⟨#[34]⟩, .string ⟨#[94, 39]⟩]
theorem six_alloc (w : World) : Six w.heap.size (w.alloc (.cells sixB 9)) := by
  constructor <;> (rw [World.cell?_alloc_at _ _ _ _ rfl]; rfl)
set_option maxHeartbeats 8000000 in
set_option maxRecDepth 100000 in
theorem Param_ok (k : Nat) (s : ByteArray) (w : World) (hG : GG w) (hs : s.size ≤ 2000000000) (hC : Aside0 (escape_Clean.f k s true = some 0)) :
    Calls Tryz.prog 64 #[.string s] w fun e w' => e = .returned (.tuple #[.string (parW s), .int .i64 0]) ∧ Below w.heap.size w w' := by
  go_enter Tryz.func64, Tryz.ntmps64
  go_wp2_with (go_at_call 55; refine (escape_Clean.calls k s true 0 _ hG hC.out).mono ?_; rintro e w1 ⟨rfl, hb1⟩; have HB1 := Aside0.mk hb1; clear hb1)
  go_at_call 80
  refine (new_walk w1.heap.size _ (six_alloc w1)).mono ?_
  rintro e w2 ⟨p, c, cap, rfl, hR, hc, hcp, hB2⟩
  have HN := Aside0.mk (And.intro hR (And.intro hc (And.intro hcp hB2)))
  clear hR hc hcp hB2
  go_wp2_with fail
  go_at_call 81
  refine (repl_walk p c cap s _ HN.out.1 HN.out.2.2.1 hs).mono ?_
  rintro e w3 ⟨rfl, hB3⟩
  have H3 : Aside0 (Below w.heap.size w w3) := ⟨by
    have b1 := HB1.out
    have b2 := HN.out.2.2.2
    have hc := HN.out.2.1
    have hcp := HN.out.2.2.1
    have e1 : (w1.alloc (.cells sixB 9)).heap.size = w1.heap.size + 1 := by simp
    have ea : w1.heap.size + 1 ≤ c := by rw [← e1]; exact hc
    refine ((b1.alloc b1.size (.cells sixB 9)).trans (b2.mono (by rw [e1]; have := b1.size; omega))).trans (hB3.mono (by have := b1.size; omega))⟩
  clear hB3
  have hpl := parT_le s.data.toList
  have hsl : s.data.toList.length = s.size := by simp
  have hps : (⟨(parT s.data.toList).toArray⟩ : ByteArray).size = (parT s.data.toList).length := by simp [ByteArray.size]
  have hcf : strings_ContainsAny.f ⟨(parT s.data.toList).toArray⟩ ⟨#[58, 59, 44]⟩ = some (s.data.toList.any quoB) := by
    unfold strings_ContainsAny.f
    rw [if_pos ⟨by rw [hps]; omega, by decide, by decide, by decide⟩]
    show some (Lib.containsAny (parT s.data.toList) [58, 59, 44]) = _
    rw [contains_quo, parT_quo]
  have HC := Aside0.mk hcf
  have HP := Aside0.mk (And.intro hpl (And.intro hsl hps))
  clear hcf hpl hsl hps
  obtain ⟨P, hP⟩ : ∃ P : ByteArray, P = ⟨(parT s.data.toList).toArray⟩ := ⟨_, rfl⟩
  rw [← hP] at HC HP ⊢
  have HPd := Aside0.mk hP
  clear hP
  by_cases hq : s.data.toList.any quoB = true
  · rw [hq] at HC
    have b1 : (9223372036854775807 < 1 + P.size) = False := eq_false (by have := HP.out; omega)
    have b2 : (9223372036854775807 < 1 + P.size + 1) = False := eq_false (by have := HP.out; omega)
    have HQ := Aside0.mk hq
    clear hq
    go_wp2_with (go_at_call 38; refine (strings_ContainsAny.calls _ _ true _ (hG.below H3.out) HC.out).mono ?_; rintro e w4 ⟨rfl, hB4⟩; have H4 := Aside0.mk hB4; clear hB4)
    go_ret2
    refine ⟨?_, H3.out.trans (H4.out.mono H3.out.size)⟩
    have : parW s = ⟨#[34]⟩ ++ P ++ ⟨#[34]⟩ := by
      unfold parW parL
      rw [if_pos HQ.out, HPd.out]
      rfl
    rw [this]; rfl
  · rw [Bool.not_eq_true] at hq
    rw [hq] at HC
    have HQ := Aside0.mk hq
    clear hq
    go_wp2_with (go_at_call 38; refine (strings_ContainsAny.calls _ _ false _ (hG.below H3.out) HC.out).mono ?_; rintro e w4 ⟨rfl, hB4⟩; have H4 := Aside0.mk hB4; clear hB4)
    go_ret2
    refine ⟨?_, H3.out.trans (H4.out.mono H3.out.size)⟩
    have : parW s = P := by
      unfold parW parL
      rw [if_neg (by rw [HQ.out]; simp), HPd.out]
    rw [this]; rfl
theorem escape_Param.calls (k : Nat) (a0 : ByteArray) (r1 : ByteArray) (r2 : Int) (w : World) (hG : GG w) (h : escape_Param.f k a0 = some (r1, r2)) :
    Calls Tryz.prog 64 #[.string a0] w fun e w' => e = .returned (.tuple #[.string r1, .int .i64 r2]) ∧ Below w.heap.size w w' := by
  unfold escape_Param.f at h
  obtain ⟨z, hz, h⟩ := Option.bind_eq_some_iff.1 h
  by_cases h0 : z = 0
  · rw [if_pos h0] at h
    subst h0
    by_cases hs : a0.size ≤ 2000000000
    · rw [if_pos hs] at h
      obtain ⟨rfl, rfl⟩ := Prod.mk.inj (Option.some.inj h)
      exact Param_ok k a0 w hG hs ⟨hz⟩
    · rw [if_neg hs] at h; cases h
  · rw [if_neg h0] at h
    obtain ⟨rfl, rfl⟩ := Prod.mk.inj (Option.some.inj h)
    exact Param_bad k a0 _ h0 w hG ⟨hz⟩
end Go.Proofs.YtdojmdbaiddkgaaGreatDoor.Print
end
section
set_option linter.unusedVariables false
set_option linter.unusedSimpArgs false
namespace Go.Proofs.YtdojmdbaiddkgaaGreatDoor.Bld
open Go.RowKit
theorem blk_set {w : World} {g : Nat} {t : TypeId} {cs : Array Value} (h : w.heap[g]? = some (.cells cs t (0, 0))) (i : Nat) (u : Value) : (w.setCell ⟨g, i, none⟩ u).heap[g]? = some (.cells (cs.setIfInBounds i u) t (0, 0)) := by
  simp [World.setCell, Array.getElem?_modify, h]
theorem infoByte : (Tryz.prog.info? 5).map (fun i => (i.zero, i.size, i.bytes)) = some (some (.int .u8 0), 1, 1) := by kernel_rfl
theorem sizeBuilder : (Tryz.prog.info? 84).map (·.size) = some 2 := by kernel_rfl
theorem liesBuilder : liesAt Tryz.prog Tryz.prog.depth 84 (2 / Tryz.prog.cellsOf 84) 0 84 1 = true := by kernel_rfl
set_option maxHeartbeats 1000000 in
set_option maxRecDepth 100000 in
theorem copyCheck_used (b : Nat) (w : World) (h0 : w.cell? ⟨b, 0, none⟩ = some (.pointer (some ⟨b, 0, none⟩))) :
    Calls Tryz.prog 79 #[.pointer (some ⟨b, 0, none⟩)] w fun e w' => e = .returned (.tuple #[]) ∧ w' = w := by
  obtain ⟨j, hj, _⟩ := Option.map_eq_some_iff.1 sizeBuilder
  go_enter Tryz.func79, Tryz.ntmps79
  go_wp2
  rw [Lib.run_neq_ptr_same w _ Tryz.underlying81 hj]
  go_wp2
  go_end0
  exact ⟨rfl, rfl⟩
set_option maxHeartbeats 1000000 in
set_option maxRecDepth 100000 in
theorem copyCheck_fresh (b : Nat) (w : World) (h0 : w.cell? ⟨b, 0, none⟩ = some (.pointer none)) (hsh : w.shape? b = some (84, 2)) (hfz : w.frozen? ⟨b, 0, none⟩ = false) :
    Calls Tryz.prog 79 #[.pointer (some ⟨b, 0, none⟩)] w fun e w' => e = .returned (.tuple #[]) ∧ w' = w.setCell ⟨b, 0, none⟩ (.pointer (some ⟨b, 0, none⟩)) := by
  obtain ⟨j, hj, hjs⟩ := Option.map_eq_some_iff.1 sizeBuilder
  go_enter Tryz.func79, Tryz.ntmps79
  go_wp2
  rw [Lib.run_to_unsafe w ⟨b, 0, none⟩ Tryz.underlying81 Tryz.underlying143 hj (by rw [hjs]; decide) hsh (Nat.zero_lt_succ 1)]
  simp only [Result.andThen]
  rw [Oper.upon_value]
  go_wp2
  rw [run_callFunc_extern Tryz.func94 (by kernel_rfl) (by kernel_rfl) (by kernel_rfl) (e := Extern.AbiNoEscape.same) (by kernel_rfl)]
  rw [Lib.run_noEscape]
  simp only [Result.andThen]
  rw [Oper.upon_value]
  go_wp2
  rw [Lib.run_from_unsafe w ⟨b, 0, none⟩ Tryz.underlying143 Tryz.underlying81 hj hsh liesBuilder]
  simp only [Result.andThen]
  rw [Oper.upon_value]
  go_wp2
  go_end0
  exact ⟨rfl, rfl⟩
theorem copyCheck (B b : Nat) (bs : List Value) (w : World) (h : Lib.IsBuilderF 84 5 B b bs w) :
    Calls Tryz.prog 79 #[.pointer (some ⟨b, 0, none⟩)] w fun e w' => e = .returned (.tuple #[]) ∧ (Lib.BuilderAtF 84 5 B b (.pointer (some ⟨b, 0, none⟩)) bs w' ∧ Below B w w' ∧ Lib.OthersKept 5 (some b) w w') := by
  rcases h with h | h
  · refine (copyCheck_fresh b w h.cell0 h.shape h.frozen0).mono ?_
    rintro e w' ⟨rfl, rfl⟩
    exact ⟨rfl, h.used _, (Below.refl B w).setCell (p := ⟨b, 0, none⟩) h.1 _, (Lib.OthersKept.refl _ _ w).setCell ⟨b, 0, none⟩ rfl _⟩
  · refine (copyCheck_used b w h.cell0).mono ?_
    rintro e w' ⟨rfl, rfl⟩
    exact ⟨rfl, h, Below.refl B _, Lib.OthersKept.refl _ _ _⟩
set_option maxHeartbeats 2000000 in
set_option maxRecDepth 100000 in
theorem WriteByte (B b : Nat) (bs : List Value) (c : Int) (w : World) (h : Lib.IsBuilderF 84 5 B b bs w) (hlen : bs.length + 1 ≤ 140737488355328) (hBw : B ≤ w.heap.size) :
    Calls Tryz.prog 65 #[.pointer (some ⟨b, 0, none⟩), .int .u8 c] w fun e w' => e = .returned .nilIface ∧ (Lib.BuilderAtF 84 5 B b (.pointer (some ⟨b, 0, none⟩)) (bs ++ [.int .u8 c]) w' ∧ Below B w w' ∧ Lib.OthersKept 5 (some b) w w') := by
  obtain ⟨i0, hi, hz0, hz1, hz2⟩ := info_parts infoByte
  go_enter Tryz.func65, Tryz.ntmps65
  go_wp2_with (go_at_call 79; refine (copyCheck B b bs _ h).mono ?_)
  rintro e w1 ⟨rfl, h1, hb1, hk1⟩
  obtain ⟨hB, v, hbk, hown, hne⟩ := h1
  have c0 : w1.cell? ⟨b, 0, none⟩ = some (.pointer (some ⟨b, 0, none⟩)) := by rw [Lib.cell_of_heap hbk]; rfl
  have c1 : w1.cell? ⟨b, 1, none⟩ = some v := by rw [Lib.cell_of_heap hbk]; rfl
  go_wp2_with (at_builtin; refine wpList_append_ownF _ rfl _ _ 82 rfl B 5 i0 (.int .u8 0) 1 1 Tryz.underlying82 hi hz0 hz1 hz2 rfl (by decide) _ _ _ rfl (hown.alloc _) ⟨w1.heap.size, 0, none⟩ 1 1 [.int .u8 c] rfl rfl ?c1 ?c2 ?c3 ?c4 ?c5 ?_)
  case c1 =>
    intro j u hj
    match j, hj with
    | 0, hj => simp at hj; subst hj; simp [Addr.add]
  case c2 => intro u hu; simp at hu; subst hu; rfl
  case c3 => unfold maxLen; omega
  case c4 => omega
  case c5 => have := hb1.size; simp; omega
  intro v' w2 hown' hgrow _
  have hlt : b < w1.heap.size := by
    rcases Nat.lt_or_ge b w1.heap.size with h' | h'
    · exact h'
    · simp [Array.getElem?_eq_none h'] at hbk
  have hb2 : w2.heap[b]? = some (.cells #[.pointer (some ⟨b, 0, none⟩), v] 84 (0, 0)) := by
    rw [hgrow.block b (by simp; omega) (fun e => hne e.symm), Lib.alloc_old w1 _ b hlt]
    exact hbk
  have d0 : w2.cell? ⟨b, 0, none⟩ = some (.pointer (some ⟨b, 0, none⟩)) := by rw [Lib.cell_of_heap hb2]; rfl
  have d1 : w2.cell? ⟨b, 1, none⟩ = some v := by rw [Lib.cell_of_heap hb2]; rfl
  have f1 : w2.frozen? ⟨b, 1, none⟩ = false := Lib.frozen_of_heap hb2 1
  obtain ⟨g, cap, rfl⟩ : ∃ g cap, v' = .slice (some ⟨g, 0, none⟩) (bs.length + 1) cap := by
    rcases hown'.2 with ⟨_, h0⟩ | ⟨g, cap, cur, fz, hv, _⟩
    · omega
    · exact ⟨g, cap, hv⟩
  go_wp2
  go_ret
  refine ⟨rfl, ?_, ?_, ((hk1.alloc _).grown hgrow (Lib.ownsRowF_kind (hown.alloc _))).setCell ⟨b, 1, none⟩ rfl _⟩
  · exact Lib.BuilderAtF.put (T := 84) (e := 5) hB hb2 (bs' := bs ++ [.int .u8 c]) (by simpa using hown') (by decide)
  · exact ((hb1.alloc (by have := hb1.size; omega) _).grown hgrow (by have := hb1.size; simp; omega) (fun k hk => (hown.lt k hk).1)).setCell (p := ⟨b, 1, none⟩) hB _
set_option maxHeartbeats 2000000 in
set_option maxRecDepth 100000 in
theorem WriteString (B b : Nat) (bs : List Value) (s : ByteArray) (w : World) (h : Lib.IsBuilderF 84 5 B b bs w) (hlen : bs.length + s.size ≤ 140737488355328) (hBw : B ≤ w.heap.size) :
    Calls Tryz.prog 63 #[.pointer (some ⟨b, 0, none⟩), .string s] w fun e w' => e = .returned (.tuple #[.int .i64 s.size, .nilIface]) ∧ (Lib.BuilderAtF 84 5 B b (.pointer (some ⟨b, 0, none⟩)) (bs ++ Lib.strCells s) w' ∧ Below B w w' ∧ Lib.OthersKept 5 (some b) w w') := by
  obtain ⟨i0, hi, hz0, hz1, hz2⟩ := info_parts infoByte
  go_enter Tryz.func63, Tryz.ntmps63
  go_wp2_with (go_at_call 79; refine (copyCheck B b bs _ h).mono ?_)
  rintro e w1 ⟨rfl, h1, hb1, hk1⟩
  obtain ⟨hB, v, hbk, hown, hne⟩ := h1
  have c0 : w1.cell? ⟨b, 0, none⟩ = some (.pointer (some ⟨b, 0, none⟩)) := by rw [Lib.cell_of_heap hbk]; rfl
  have c1 : w1.cell? ⟨b, 1, none⟩ = some v := by rw [Lib.cell_of_heap hbk]; rfl
  go_wp2_with (at_builtin; refine Lib.wpList_append_own_stringF _ rfl _ _ 82 9 rfl B 5 i0 Tryz.underlying82 Tryz.underlying9 hi hz0 hz1 hz2 _ _ _ rfl hown s rfl ?c3 ?c4 ?c5 ?_)
  case c3 => unfold maxLen; omega
  case c4 => omega
  case c5 => have := hb1.size; omega
  intro v' w2 hown' hgrow _
  have hlt : b < w1.heap.size := by
    rcases Nat.lt_or_ge b w1.heap.size with h' | h'
    · exact h'
    · simp [Array.getElem?_eq_none h'] at hbk
  have hb2 : w2.heap[b]? = some (.cells #[.pointer (some ⟨b, 0, none⟩), v] 84 (0, 0)) := by
    rw [hgrow.block b hlt (fun e => hne e.symm)]
    exact hbk
  have d0 : w2.cell? ⟨b, 0, none⟩ = some (.pointer (some ⟨b, 0, none⟩)) := by rw [Lib.cell_of_heap hb2]; rfl
  have d1 : w2.cell? ⟨b, 1, none⟩ = some v := by rw [Lib.cell_of_heap hb2]; rfl
  have f1 : w2.frozen? ⟨b, 1, none⟩ = false := Lib.frozen_of_heap hb2 1
  obtain ⟨ao, n', cap, rfl⟩ : ∃ ao n' cap, v' = .slice ao n' cap := by
    rcases hown'.2 with ⟨hv, _⟩ | ⟨g, cap, cur, fz, hv, _⟩
    · exact ⟨_, _, _, hv⟩
    · exact ⟨_, _, _, hv⟩
  go_wp2
  go_ret2
  refine ⟨rfl, ?_, ?_, (hk1.grown hgrow (Lib.ownsRowF_kind hown)).setCell ⟨b, 1, none⟩ rfl _⟩
  · exact Lib.BuilderAtF.put (T := 84) (e := 5) hB hb2 (bs' := bs ++ Lib.strCells s) (by simpa [Lib.strCells_length] using hown') (by decide)
  · exact (hb1.grown hgrow (by have := hb1.size; omega) (fun k hk => (hown.lt k hk).1)).setCell (p := ⟨b, 1, none⟩) hB _
/-- A builder at block b, made at or above block B, holds the bytes l. -/
structure Has (B b : Nat) (l : List UInt8) (w : World) : Prop where
  out : Lib.IsBuilderF 84 5 B b (Lib.byteCells l) w
theorem grownB {w w' : World} (hb : Below w.heap.size w w') : w.grownBy w' none := ⟨hb.os, hb.tape, hb.output, hb.size, fun i hi _ => hb.block i hi⟩
theorem Has.new (B : Nat) (w : World) (h : B ≤ w.heap.size) : Has B w.heap.size [] (w.alloc (.cells #[.pointer none, .slice none 0 0] 84)) :=
  ⟨.inl ⟨h, _, by simpa using heap_alloc_new w _, ⟨by simp [Lib.byteCells], .inl ⟨rfl, rfl⟩⟩, by simp [Value.ownBlock]⟩⟩
theorem Has.lt {B b : Nat} {l : List UInt8} {w : World} (h : Has B b l w) : b < w.heap.size := by
  rcases h.out with ⟨_, v, hb, _⟩ | ⟨_, v, hb, _⟩
  · exact (Array.getElem?_eq_some_iff.1 hb).1
  · exact (Array.getElem?_eq_some_iff.1 hb).1
theorem Has.below {B b : Nat} {l : List UInt8} {w w' : World} (h : Has B b l w) (hb : Below w.heap.size w w') : Has B b l w' := by
  rcases h.out with ⟨h1, v, h2, h3, h4⟩ | ⟨h1, v, h2, h3, h4⟩
  · exact ⟨.inl ⟨h1, v, (hb.block _ (Array.getElem?_eq_some_iff.1 h2).1).trans h2, h3.kept (grownB hb) (by cases v.ownBlock <;> simp), h4⟩⟩
  · exact ⟨.inr ⟨h1, v, (hb.block _ (Array.getElem?_eq_some_iff.1 h2).1).trans h2, h3.kept (grownB hb) (by cases v.ownBlock <;> simp), h4⟩⟩
theorem wb (B b : Nat) (l : List UInt8) (c : Int) (x : UInt8) (hx : (x.toNat : Int) = c) (w : World) (h : Has B b l w) (hlen : l.length + 1 ≤ 140737488355328) (hBw : B ≤ w.heap.size) :
    Calls Tryz.prog 65 #[.pointer (some ⟨b, 0, none⟩), .int .u8 c] w fun e w' => e = .returned .nilIface ∧ Has B b (l ++ [x]) w' ∧ Below B w w' ∧ Lib.OthersKept 5 (some b) w w' := by
  subst hx
  refine (WriteByte B b (Lib.byteCells l) x.toNat w h.out (by rw [Lib.byteCells_length]; exact hlen) hBw).mono ?_
  rintro e w' ⟨he, h1, h2, h3⟩
  exact ⟨he, ⟨.inr (by simpa [Lib.byteCells] using h1)⟩, h2, h3⟩
theorem ws (B b : Nat) (l : List UInt8) (s : ByteArray) (w : World) (h : Has B b l w) (hlen : l.length + s.size ≤ 140737488355328) (hBw : B ≤ w.heap.size) :
    Calls Tryz.prog 63 #[.pointer (some ⟨b, 0, none⟩), .string s] w fun e w' => e = .returned (.tuple #[.int .i64 s.size, .nilIface]) ∧ Has B b (l ++ s.data.toList) w' ∧ Below B w w' ∧ Lib.OthersKept 5 (some b) w w' := by
  refine (WriteString B b (Lib.byteCells l) s w h.out (by rw [Lib.byteCells_length]; exact hlen) hBw).mono ?_
  rintro e w' ⟨he, h1, h2, h3⟩
  exact ⟨he, ⟨.inr (by simpa [Lib.byteCells, Lib.strCells] using h1)⟩, h2, h3⟩
theorem str (B b : Nat) (l : List UInt8) (w : World) (h : Has B b l w) (hBw : B ≤ w.heap.size) :
    Calls Tryz.prog 41 #[.pointer (some ⟨b, 0, none⟩)] w fun e w' => e = .returned (.string ⟨l.toArray⟩) ∧ Has B b l w' ∧ Below B w w' ∧ Lib.OthersKept 5 (some b) w w' := by
  refine (Tryz.Builder_String_any_k B b l w h.out hBw).mono ?_
  rintro e w' ⟨he, h1, h2, h3⟩
  exact ⟨he, ⟨h1⟩, h2, h3⟩
theorem len (B b : Nat) (l : List UInt8) (w : World) (h : Has B b l w) :
    Calls Tryz.prog 39 #[.pointer (some ⟨b, 0, none⟩)] w fun e w' => e = .returned (.int .i64 l.length) ∧ w' = w := by
  have := Tryz.Builder_Len_f B b (Lib.byteCells l) w h.out
  rw [Lib.byteCells_length] at this
  exact this
end Go.Proofs.YtdojmdbaiddkgaaGreatDoor.Bld
end
section
set_option linter.unusedVariables false
set_option linter.unusedSimpArgs false
namespace Go.Proofs.YtdojmdbaiddkgaaGreatDoor.Print
open Go.RowKit Go.Proofs.YtdojmdbaiddkgaaGreatDoorW.PrintWords Go.Proofs.YtdojmdbaiddkgaaGreatDoorW.PrintLast
/-- A parameter's values, each with the byte ahead of it. -/
def valsT : List ByteArray → UInt8 → List UInt8
  | [], _ => []
  | v :: t, b => b :: parL v.data.toList ++ valsT t 44
def parsT : List S77 → List UInt8
  | [] => []
  | p :: t => 59 :: p.f0.data.toList ++ valsT p.f1 61 ++ parsT t
def lineT (nm : ByteArray) (l : List S77) (v : ByteArray) : List UInt8 := nm.data.toList ++ parsT l ++ 58 :: v.data.toList
def cleanAll (k : Nat) (l : List S77) : Bool := l.all fun p => p.f1.all fun x => decide (escape_Clean.f k x true = some 0)
def lineR (nm : ByteArray) (l : List S77) (v : ByteArray) : ByteArray × Int := if 2000 < (lineT nm l v).length then (⟨#[]⟩, 4) else (⟨(lineT nm l v).toArray⟩, 0)
def line_Print.f (k : Nat) (nm : ByteArray) (l : List S77) (v : ByteArray) : Option (ByteArray × Int) :=
  (line_Formed.f k nm l v).bind fun ok => if ok = true then (if cleanAll k l = true ∧ (lineT nm l v).length ≤ 1000000000 then some (lineR nm l v) else none) else some (⟨#[]⟩, 1)
theorem print_bad (k : Nat) (nm : ByteArray) (A : Option Addr) (c : Nat) (l : List S77) (v : ByteArray) (w : World) (hG : GG w) (hr : Kd.C k77 w A l.length l) (hc : l.length ≤ c) (h : line_Formed.f k nm l v = some false) :
    Calls Tryz.prog 36 #[.agg #[.string nm, .slice A l.length c, .string v]] w fun e w' => e = .returned (.tuple #[.string ⟨#[]⟩, .int .i64 1]) ∧ Below w.heap.size w w' := by
  have H := Aside0.mk h
  have hnot : ∀ (x : Bool) (w : World), (Op.unary .not (.bool x)).run Tryz.prog w = .ok (.bool (!x)) w := fun _ _ => rfl
  clear h
  go_enter Tryz.func36, Tryz.ntmps36
  go_wp2_with fail
  go_at_call 45
  refine (line_Formed.calls k nm A c l v false _ (hG.alloc _) (Kd.C_below hr (below_alloc (Below.refl _ _) _)) hc H.out).mono ?_
  rintro e w1 ⟨rfl, hB⟩
  have HB := Aside0.mk ((below_alloc (Below.refl _ _) _).trans (hB.mono (by simp)))
  clear hB
  go_wp2_with fail
  go_ret2
  exact ⟨rfl, HB.out⟩
theorem parL_len (l : List UInt8) : l.length ≤ (parL l).length := by
  have h : l.length ≤ (parT l).length := by
    induction l with
    | nil => simp [parT]
    | cons c t ih =>
      rw [parT_cons, List.length_append, List.length_cons]
      have : 1 ≤ (parB c).length := by unfold parB; split <;> (try split) <;> (try split) <;> simp
      omega
  unfold parL; split
  · simp; omega
  · exact h
theorem valsT_at (l : List ByteArray) (b : UInt8) (i : Nat) (hi : i < l.length) : valsT (l.drop i) b = b :: parL l[i].data.toList ++ valsT (l.drop (i + 1)) 44 := by
  rw [List.drop_eq_getElem_cons hi]; rfl
theorem parsT_at (l : List S77) (i : Nat) (hi : i < l.length) : parsT (l.drop i) = 59 :: l[i].f0.data.toList ++ valsT l[i].f1 61 ++ parsT (l.drop (i + 1)) := by
  rw [List.drop_eq_getElem_cons hi]; rfl
theorem gblkc {w : World} {g : Nat} {cs : Array Value} {t : TypeId} {fr : Nat × Nat} (h : w.heap[g]? = some (.cells cs t fr)) (j : Nat) : w.cell? ⟨g, j, none⟩ = cs[j]? := by simp [World.cell?, h]
theorem kept53 {b g : Nat} {w w' : World} {cs : Array Value} {t : TypeId} (h : Lib.OthersKept 5 (some b) w w') (hg : w.heap[g]? = some (.cells cs t (0, 0))) (ht : t ≠ 5) (hgb : g ≠ b) : w'.heap[g]? = some (.cells cs t (0, 0)) := h g _ hg (by intro e; injection e with e; exact hgb e) (by intro c fz e; injection e with _ e2; exact ht e2)
set_option maxHeartbeats 800000 in
set_option maxRecDepth 100000 in
theorem print_ok (k : Nat) (nm : ByteArray) (A : Option Addr) (c : Nat) (l : List S77) (v : ByteArray) (w : World) (hG : GG w) (hr : Kd.C k77 w A l.length l) (hc : l.length ≤ c) (h : line_Formed.f k nm l v = some true) (hcl : cleanAll k l = true) (hlen : (lineT nm l v).length ≤ 1000000000) :
    Calls Tryz.prog 36 #[.agg #[.string nm, .slice A l.length c, .string v]] w fun e w' => e = .returned (.tuple #[.string (lineR nm l v).1, .int .i64 (lineR nm l v).2]) ∧ Below w.heap.size w w' := by
  have H := Aside0.mk h
  have HC := Aside0.mk hcl
  have HR := Aside0.mk hr
  have HLE := Aside0.mk hlen
  have hlm := hr.2.1
  have hnot : ∀ (x : Bool) (w : World), (Op.unary .not (.bool x)).run Tryz.prog w = .ok (.bool (!x)) w := fun _ _ => rfl
  clear h hcl hlen
  obtain ⟨n, hn⟩ : ∃ n, n = l.length := ⟨_, rfl⟩
  have HN := Aside0.mk hn
  clear hr
  rw [← hn] at hlm hc ⊢
  clear hn
  go_enter Tryz.func36, Tryz.ntmps36
  go_wp2_with fail
  go_at_call 45
  rw [HN.out]
  refine (line_Formed.calls k nm A c l v true _ (hG.alloc _) (Kd.C_below HR.out (below_alloc (Below.refl _ _) _)) (by have := HN.out; omega) H.out).mono ?_
  rintro e w1 ⟨rfl, hB⟩
  rw [← HN.out]
  obtain ⟨X, hX⟩ : ∃ X, X = w.heap.size := ⟨_, rfl⟩
  have HB := Aside0.mk ((below_alloc (Below.refl w.heap.size w) _).trans (hB.mono (by simp)))
  have hbx : w1.heap[X]? = some (.cells #[.string nm, .slice A n c, .string v] 49 (0, 0)) := by
    rw [HN.out, hX]; exact (hB.block w.heap.size (by simp)).trans (heap_alloc_new w _)
  have HXB := Aside0.mk hbx
  have hXl : X < w1.heap.size := (Array.getElem?_eq_some_iff.1 hbx).1
  rw [← hX]
  have HXs := Aside0.mk hX
  clear hB hX
  have x0 := gblkc hbx 0
  have x1 := gblkc hbx 1
  have x2 := gblkc hbx 2
  clear hbx
  go_wp2_with fail
  obtain ⟨B, hBd⟩ : ∃ B, B = w1.heap.size := ⟨_, rfl⟩
  have HBd := Aside0.mk hBd
  have HH0 : Aside0 (Bld.Has B B [] (w1.alloc (.cells #[.pointer none, .slice none 0 0] 84))) := ⟨by rw [hBd]; exact Bld.Has.new _ _ (Nat.le_refl _)⟩
  have HB0 : Aside0 (Below B w1 (w1.alloc (.cells #[.pointer none, .slice none 0 0] 84))) := ⟨by rw [hBd]; exact (Below.refl _ _).alloc (Nat.le_refl _) _⟩
  rw [← hBd]
  have hXB : X < B := by omega
  clear hBd
  have HPL : Aside0 (nm.data.toList.length + (parsT l).length + 1 + v.size ≤ 1000000000) := ⟨by
    have := HLE.out; unfold lineT at this; rw [List.length_append, List.length_append, List.length_cons] at this
    have e : v.data.toList.length = v.size := by simp
    omega⟩
  go_at_call 63
  refine (Bld.ws B B [] nm _ HH0.out (by have := HPL.out; have e : nm.data.toList.length = nm.size := by simp
                                         simp only [List.length_nil]; omega) (by have := HBd.out; simp; omega)).mono ?_
  rintro e w2 ⟨rfl, hH2, hB2, _⟩
  have HH2 := Aside0.mk hH2
  have HB2 := Aside0.mk (HB0.out.trans hB2)
  clear hH2 hB2 HH0 HB0
  have HXC := Aside0.mk x2
  have y1 := (HB2.out.cell (p := ⟨X, 1, none⟩) hXB).trans x1
  have y2 := (HB2.out.cell (p := ⟨X, 2, none⟩) hXB).trans x2
  clear x0 x1 x2
  go_wp2_with fail
  rw [List.nil_append] at HH2
  go_loopg [21] n (fun g v21 wr => ∃ i : Nat, v21 = .int .i64 i ∧ i ≤ n ∧ Aside0 (n ≤ i + g) ∧ Aside0 (∃ acc, Bld.Has B B acc wr ∧ acc ++ parsT (l.drop i) = nm.data.toList ++ parsT l) ∧ Aside0 (Below B w1 wr))
  case atStart => exact ⟨0, rfl, by omega, ⟨by omega⟩, ⟨_, HH2.out, by rw [List.drop_zero]⟩, HB2⟩
  case round =>
    obtain ⟨i, rfl, hi, HI, HH, HBr⟩ := hrel
    obtain ⟨acc, hH, hacc⟩ := HH.out
    have HHr := Aside0.mk hH
    have HAC := Aside0.mk hacc
    clear hH hacc HH2 HB2
    by_cases hlt : i < n
    · cases gk with
      | zero => exfalso; have := HI.out; omega
      | succ g =>
      have hil : i < l.length := by have := HN.out; omega
      obtain ⟨b0, o0, A2, c2, e0, p0, p1, hc2, hC2⟩ := par_at (Kd.C_below HR.out HB.out) i hil
      subst e0
      have hpt := parsT_at l i hil
      obtain ⟨p, hp⟩ : ∃ p, p = l[i] := ⟨_, rfl⟩
      have hpd : l.getD i z77 = p := by rw [List.getD_eq_getElem?_getD, List.getElem?_eq_getElem hil, hp]; rfl
      rw [hpd] at p0 p1 hc2 hC2
      rw [← hp] at hpt
      have HPT := Aside0.mk hpt
      have HCL : Aside0 (∀ x ∈ p.f1, escape_Clean.f k x true = some 0) := ⟨fun x hx => by
        have h1 := List.all_eq_true.1 HC.out p (by rw [hp]; exact List.getElem_mem hil)
        exact of_decide_eq_true (List.all_eq_true.1 h1 x hx)⟩
      have hbl : b0 < w1.heap.size := cellLt0 p0
      have hbB : b0 < B := by have := HBd.out; omega
      have q0 := (HBr.out.cell (p := ⟨b0, o0 + i * 2, none⟩) hbB).trans p0
      have q1 := (HBr.out.cell (p := ⟨b0, o0 + i * 2 + 1, none⟩) hbB).trans p1
      have HCV := Aside0.mk hC2
      have hsm := hC2.2.1
      have HSZ : Aside0 (acc.length + (1 + p.f0.size + (valsT p.f1 61).length + (parsT (l.drop (i + 1))).length) ≤ 1000000000) := ⟨by
        have e := congrArg List.length HAC.out
        rw [HPT.out] at e
        simp only [List.length_append, List.length_cons] at e
        have e2 : p.f0.data.toList.length = p.f0.size := by simp
        have := HPL.out
        omega⟩
      have b1 : (9223372036854775807 < 1 + p.f0.size) = False := eq_false (by have := HSZ.out; omega)
      have hwB : B ≤ wr.heap.size := by have := HBr.out.size; have := HBd.out; omega
      obtain ⟨m, hm⟩ : ∃ m, m = p.f1.length := ⟨_, rfl⟩
      have HM := Aside0.mk hm
      rw [← hm] at q1 hsm
      clear hp hpd hpt hc2 hC2 p0 p1 hbl hm y1 y2
      go_wp2_with fail
      go_at_call 63
      refine (Bld.ws B B acc _ _ (HHr.out.below (below_alloc (Below.refl _ _) _)) (by have := HSZ.out; rw [ByteArray.size_append]; show acc.length + (1 + p.f0.size) ≤ _; omega) (by simp; omega)).mono ?_
      rintro e w3 ⟨rfl, hH3, hB3, hk3⟩
      obtain ⟨Pb, hPb⟩ : ∃ Pb, Pb = wr.heap.size := ⟨_, rfl⟩
      have hpb : w3.heap[Pb]? = some (.cells #[.string p.f0, .slice A2 m c2] 77 (0, 0)) := by
        rw [hPb]
        exact kept53 hk3 (heap_alloc_new wr _) (by decide) (by have := HHr.out.lt; omega)
      have z1 := gblkc hpb 1
      have HH3 : Aside0 (Bld.Has B B (acc ++ [59] ++ p.f0.data.toList) w3) := ⟨by
        have e : (⟨#[59]⟩ ++ p.f0 : ByteArray).data.toList = [59] ++ p.f0.data.toList := by simp
        rw [e, ← List.append_assoc] at hH3; exact hH3⟩
      have HB3 := Aside0.mk ((HBr.out.alloc hwB _).trans hB3)
      rw [← hPb]
      clear hH3 hB3 hk3 hpb hPb q0 q1 b1
      go_wp2_with fail
      go_loopg [7, 9, 10, 11, 32] m (fun g2 v7 v9 v10 v11 v32 wr => ∃ j : Nat, v32 = .int .i64 j ∧ j ≤ m ∧ v7 = .int .u8 (if j = 0 then 61 else 44) ∧ Aside0 (m ≤ j + g2) ∧ Aside0 (∃ acc2, Bld.Has B B acc2 wr ∧ acc2 ++ valsT (p.f1.drop j) (if j = 0 then 61 else 44) = acc ++ [59] ++ p.f0.data.toList ++ valsT p.f1 61) ∧ Aside0 (Below B w1 wr))
      case atStart => exact ⟨0, rfl, by omega, rfl, ⟨by omega⟩, ⟨_, HH3.out, by rw [List.drop_zero]; rfl⟩, HB3⟩
      case round =>
        obtain ⟨j, rfl, hj, rfl, HJ, HH4, HB4⟩ := hrel
        obtain ⟨acc2, hH4, hacc2⟩ := HH4.out
        have HHj := Aside0.mk hH4
        have HAj := Aside0.mk hacc2
        clear hH4 hacc2 HH3 HB3
        obtain ⟨by', hby⟩ : ∃ by' : UInt8, ((by'.toNat : Nat) : Int) = (if j = 0 then 61 else 44) ∧ (if j = 0 then (61 : UInt8) else 44) = by' := ⟨if j = 0 then 61 else 44, by split <;> rfl, rfl⟩
        have HBY := Aside0.mk hby
        rw [← hby.1]
        clear hby
        by_cases hlt2 : j < m
        · cases gk with
          | zero => exfalso; have := HJ.out; omega
          | succ g2 =>
          have hjl : j < p.f1.length := by have := HM.out; omega
          have hb14 : Below w1.heap.size w1 wr := by have h := HB4.out; rw [HBd.out] at h; exact h
          obtain ⟨b5, o5, rfl, hcs⟩ := strs_row (Kd.C_below HCV.out hb14) (by intro e; rw [e] at hjl; simp at hjl)
          have hc5 := hcs j hjl
          have hvt := valsT_at p.f1 (if j = 0 then 61 else 44) j hjl
          obtain ⟨x, hx⟩ : ∃ x, x = p.f1[j] := ⟨_, rfl⟩
          have hxd : p.f1.getD j ByteArray.empty = x := by rw [List.getD_eq_getElem?_getD, List.getElem?_eq_getElem hjl, hx]; rfl
          rw [hxd] at hc5
          rw [← hx] at hvt
          have HVT := Aside0.mk hvt
          have hcx := HCL.out x (by rw [hx]; exact List.getElem_mem hjl)
          have HSj : Aside0 (acc2.length + (1 + (parL x.data.toList).length) ≤ 1000000000) := ⟨by
            have e := congrArg List.length HAj.out
            rw [HVT.out] at e
            simp only [List.length_append, List.length_cons, List.length_nil] at e
            have e2 : p.f0.data.toList.length = p.f0.size := by simp
            have := HSZ.out
            omega⟩
          have HPF : Aside0 (escape_Param.f k x = some (parW x, 0)) := ⟨by
            unfold escape_Param.f
            rw [hcx, Option.bind_some, if_pos rfl, if_pos]
            have h1 := parL_len x.data.toList
            have e : x.data.toList.length = x.size := by simp
            have := HSj.out
            omega⟩
          have hwB2 : B ≤ wr.heap.size := by have := HB4.out.size; have := HBd.out; omega
          have hGw : GG wr := hG.below (HB.out.trans (hb14.mono HB.out.size))
          clear hx hxd hvt hcx hcs hb14
          go_wp2_with fail
          go_at_call 64
          refine (escape_Param.calls k x (parW x) 0 _ hGw HPF.out).mono ?_
          rintro e w5 ⟨rfl, hB5⟩
          have HH5 := Aside0.mk (HHj.out.below hB5)
          have HB5 := Aside0.mk (HB4.out.trans (hB5.mono hwB2))
          have hwB5 : B ≤ w5.heap.size := by have := hB5.size; omega
          clear hB5 hGw
          go_wp2_with fail
          go_at_call 65
          refine (Bld.wb B B acc2 _ by' rfl _ HH5.out (by have := HSj.out; omega) hwB5).mono ?_
          rintro e w6 ⟨rfl, hH6, hB6, _⟩
          have HH6 := Aside0.mk hH6
          have HB6 := Aside0.mk (HB5.out.trans hB6)
          have hwB6 : B ≤ w6.heap.size := by have := hB6.size; omega
          clear hH6 hB6
          go_wp2_with fail
          go_at_call 63
          refine (Bld.ws B B (acc2 ++ [by']) (parW x) _ HH6.out (by have := HSj.out; have e : (parW x).size = (parL x.data.toList).length := by simp [parW, ByteArray.size]
                                                                    rw [List.length_append, List.length_singleton]; omega) hwB6).mono ?_
          rintro e w7 ⟨rfl, hH7, hB7, _⟩
          have HH7 := Aside0.mk hH7
          have HB7 := Aside0.mk (HB6.out.trans hB7)
          clear hH7 hB7
          go_wp2_with fail
          go_roundg g2
          case measure => have := HJ.out; omega
          case rel =>
            refine ⟨j + 1, by first | rfl | (go_num; done), by omega, by rw [if_neg (by omega)], ⟨by have := HJ.out; omega⟩, ⟨_, HH7.out, ?_⟩, HB7⟩
            rw [← HAj.out, HVT.out, HBY.out.2, if_neg (by omega)]
            simp [parW]
        · have hjm : j = m := by omega
          have HACC : Aside0 (acc2 ++ parsT (l.drop (i + 1)) = nm.data.toList ++ parsT l) := ⟨by
            have e := HAj.out
            rw [List.drop_eq_nil_of_le (by have := HM.out; omega)] at e
            rw [← HAC.out, HPT.out]
            simp only [valsT, List.append_nil] at e
            rw [e]
            simp⟩
          clear hjm
          go_wp2_with fail
          go_roundg g
          case measure => have := HI.out; omega
          case rel => exact ⟨i + 1, by first | rfl | (go_num; done), by omega, ⟨by have := HI.out; omega⟩, ⟨acc2, HHj.out, HACC.out⟩, HB4⟩
    · have hin : i = n := by omega
      have HACC : Aside0 (acc = nm.data.toList ++ parsT l) := ⟨by
        have e := HAC.out
        rw [List.drop_eq_nil_of_le (by have := HN.out; omega)] at e
        simpa [parsT] using e⟩
      have r2 := (HBr.out.cell (p := ⟨X, 2, none⟩) hXB).trans (HXC.out)
      have b1 : (9223372036854775807 < 1 + v.size) = False := eq_false (by have := HPL.out; omega)
      have hwB : B ≤ wr.heap.size := by have := HBr.out.size; have := HBd.out; omega
      clear hin y1 y2
      go_wp2_with fail
      go_at_call 63
      refine (Bld.ws B B acc _ _ HHr.out (by rw [HACC.out, ByteArray.size_append, List.length_append]; have := HPL.out; show _ + (1 + v.size) ≤ _; omega) hwB).mono ?_
      rintro e w3 ⟨rfl, hH3, hB3, _⟩
      have HH3 : Aside0 (Bld.Has B B (lineT nm l v) w3) := ⟨by
        have e : (⟨#[58]⟩ ++ v : ByteArray).data.toList = 58 :: v.data.toList := by simp
        rw [e, HACC.out] at hH3; exact hH3⟩
      have HB3 := Aside0.mk (HBr.out.trans hB3)
      have hwB3 : B ≤ w3.heap.size := by have := hB3.size; omega
      have hfin : ∀ w', Below B w1 w' → Below w.heap.size w w' := fun w' h => HB.out.trans (h.mono (by have := HBd.out; have := HB.out.size; omega))
      clear hH3 hB3 r2 b1
      obtain ⟨L, hL⟩ : ∃ L : Nat, L = (lineT nm l v).length := ⟨_, rfl⟩
      have HL := Aside0.mk hL
      clear hL
      by_cases hl2 : (2000 : Int) < (L : Int)
      · have hR : lineR nm l v = (⟨#[]⟩, 4) := by unfold lineR; rw [if_pos (by have := HL.out; omega)]
        have d1 : decide ((2000 : Int) < (L : Int)) = true := decide_eq_true hl2
        have HRR := Aside0.mk hR
        clear hR
        go_wp2_with fail
        go_at_call 39
        refine (Bld.len _ _ _ _ HH3.out).mono ?_
        rintro e w4 ⟨rfl, hw4⟩
        rw [hw4, ← HL.out]
        clear hw4
        go_wp2_with fail
        go_ret2
        exact ⟨by rw [HRR.out]; rfl, hfin _ HB3.out⟩
      · have hR : lineR nm l v = (⟨(lineT nm l v).toArray⟩, 0) := by unfold lineR; rw [if_neg (by have := HL.out; omega)]
        have d1 : decide ((2000 : Int) < (L : Int)) = false := decide_eq_false hl2
        have HRR := Aside0.mk hR
        clear hR
        go_wp2_with fail
        go_at_call 39
        refine (Bld.len _ _ _ _ HH3.out).mono ?_
        rintro e w4 ⟨rfl, hw4⟩
        rw [hw4, ← HL.out]
        clear hw4
        go_wp2_with fail
        go_at_call 41
        refine (Bld.str _ _ _ _ HH3.out hwB3).mono ?_
        rintro e w5 ⟨rfl, _, hB5, _⟩
        have HB5 := Aside0.mk (HB3.out.trans hB5)
        clear hB5
        go_wp2_with fail
        go_ret2
        exact ⟨by rw [HRR.out]; rfl, hfin _ HB5.out⟩
theorem line_Print.calls (k : Nat) (a0_0 : ByteArray) (A0_1 : Option Addr) (c0_1 : Nat) (l0_1 : List S77) (a0_2 : ByteArray) (r1 : ByteArray) (r2 : Int) (w : World) (hG : GG w) (hr0_1 : Kd.C k77 w A0_1 l0_1.length l0_1) (hc0_1 : l0_1.length ≤ c0_1) (h : line_Print.f k a0_0 l0_1 a0_2 = some (r1, r2)) :
    Calls Tryz.prog 36 #[.agg #[.string a0_0, .slice A0_1 l0_1.length c0_1, .string a0_2]] w fun e w' => e = .returned (.tuple #[.string r1, .int .i64 r2]) ∧ Below w.heap.size w w' := by
  unfold line_Print.f at h
  obtain ⟨ok, hok, h⟩ := Option.bind_eq_some_iff.1 h
  cases ok with
  | false =>
    rw [if_neg (by decide)] at h
    have hp := print_bad k a0_0 A0_1 c0_1 l0_1 a0_2 w hG hr0_1 hc0_1 hok
    obtain ⟨rfl, rfl⟩ := Prod.mk.inj (Option.some.inj h)
    exact hp
  | true =>
    rw [if_pos rfl] at h
    by_cases hg : cleanAll k l0_1 = true ∧ (lineT a0_0 l0_1 a0_2).length ≤ 1000000000
    · rw [if_pos hg] at h
      have hp := print_ok k a0_0 A0_1 c0_1 l0_1 a0_2 w hG hr0_1 hc0_1 hok hg.1 hg.2
      rw [Option.some.inj h] at hp
      exact hp
    · rw [if_neg hg] at h; exact absurd h (by simp)
end Go.Proofs.YtdojmdbaiddkgaaGreatDoor.Print
end
section
namespace Go.Proofs.YtdojmdbaiddkgaaGreatDoor.Print
open Go.RowKit Go.Proofs.YtdojmdbaiddkgaaGreatDoorW.PrintWords Go.Proofs.YtdojmdbaiddkgaaGreatDoorW.PrintLast
set_option linter.unusedVariables false
set_option linter.unusedSimpArgs false
mutual
def tree_lines.l0 : Nat → List ByteArray → List (S49) → Int → Int → ByteArray → List (S49) → List (S31) → Option (List ByteArray × Int)
 | 0, _, _, _, _, _, _, _ => none
 | k + 1, x4, x18, x19, x20, x222000, x222001, x222002 => if x20 < x19 then (if 0 ≤ x20 then (if x20 < (x18.length : Int) then ((line_Print.f k ((rd_T49 x18 x20).f0) ((rd_T49 x18 x20).f1) ((rd_T49 x18 x20).f2)).bind fun bt227 => (if bt227.2 = 0 then (if x4.length < 8796093022208 then (tree_lines.l0 k (x4 ++ [bt227.1]) x18 x19 (wrap64 (x20 + 1)) x222000 x222001 x222002) else (none)) else (some (([] : List ByteArray), bt227.2)))) else (none)) else (none)) else (tree_lines.l1 k x4 x222002 (x222002.length : Int) 0 x222000 x222001 x222002)
def tree_lines.l1 : Nat → List ByteArray → List (S31) → Int → Int → ByteArray → List (S49) → List (S31) → Option (List ByteArray × Int)
 | 0, _, _, _, _, _, _, _ => none
 | k + 1, x4, x38, x39, x40, x222000, x222001, x222002 => if x40 < x39 then (if 0 ≤ x40 then (if x40 < (x38.length : Int) then ((tree_lines.f k ((rd_T31 x38 x40).f0) ((rd_T31 x38 x40).f1) ((rd_T31 x38 x40).f2)).bind fun bt234 => (if bt234.2 = 0 then (if x4.length + bt234.1.length < 8796093022208 then (tree_lines.l1 k (x4 ++ bt234.1) x38 x39 (wrap64 (x40 + 1)) x222000 x222001 x222002) else (none)) else (some (([] : List ByteArray), bt234.2)))) else (none)) else (none)) else (if 4 + x222000.size ≤ 9223372036854775807 then (if x4.length < 8796093022208 then (some ((x4 ++ [(⟨#[69, 78, 68, 58]⟩ : ByteArray) ++ x222000]), 0)) else (none)) else (none))
def tree_lines.f : Nat → ByteArray → List (S49) → List (S31) → Option (List ByteArray × Int)
 | 0, _, _, _ => none
 | k + 1, a0_0, l0_1, l0_2 => if 6 + a0_0.size ≤ 9223372036854775807 then (tree_lines.l0 k (([(⟨#[66, 69, 71, 73, 78, 58]⟩ : ByteArray) ++ a0_0] : List ByteArray)) l0_1 (l0_1.length : Int) 0 a0_0 l0_1 l0_2) else (none)
end
set_option maxHeartbeats 8000000 in
set_option maxRecDepth 100000 in
theorem tree_lines.calls (k : Nat) : ∀ (a0_0 : ByteArray) (A0_1 : Option Addr) (c0_1 : Nat) (l0_1 : List (S49)) (A0_2 : Option Addr) (c0_2 : Nat) (l0_2 : List (S31)) (r1 : List ByteArray) (r2 : Int) (w : World) (hG : GG w) (hr0_1 : Kd.C k49 w A0_1 l0_1.length l0_1) (hc0_1 : l0_1.length ≤ c0_1) (hr0_2 : Kd.C k31 w A0_2 l0_2.length l0_2) (hc0_2 : l0_2.length ≤ c0_2) (h : tree_lines.f k a0_0 l0_1 l0_2 = some (r1, r2)),
  Calls Tryz.prog 21 #[.agg #[.string a0_0, .slice A0_1 l0_1.length c0_1, .slice A0_2 l0_2.length c0_2]] w fun e w' => ∃ v0_ : Value, e = .returned (.tuple #[v0_, .int .i64 r2]) ∧ Kd.R Kd.string 9 w' w.heap.size (fun _ => True) v0_ r1 ∧ Below w.heap.size w w' := by
 induction k using Nat.strongRecOn with
 | _ k ih =>
 intro a0_0 A0_1 c0_1 l0_1 A0_2 c0_2 l0_2 r1 r2 w hG hr0_1 hc0_1 hr0_2 hc0_2 h
 cases k with
 | zero => exact absurd h (by simp [tree_lines.f])
 | succ k =>
 simp only [tree_lines.f] at h; have hu31 := Tryz.underlying31; have hu49 := Tryz.underlying49; have HR0_1 := Aside0.mk hr0_1; have HC0_1 := Aside0.mk hc0_1; clear hr0_1 hc0_1; have HR0_2 := Aside0.mk hr0_2; have HC0_2 := Aside0.mk hc0_2; clear hr0_2 hc0_2; have HB := Aside0.mk (Below.refl w.heap.size w); have H : (if 6 + a0_0.size ≤ 9223372036854775807 then (tree_lines.l0 k (([(⟨#[66, 69, 71, 73, 78, 58]⟩ : ByteArray) ++ a0_0] : List ByteArray)) l0_1 (l0_1.length : Int) 0 a0_0 l0_1 l0_2) else (none)) = some (r1, r2) := h; clear h; replace H := zI H; rcases H with ⟨c2, H⟩ | ⟨c2, H⟩
 ·have c2b0 := eq_true c2; have c2b1 : decide (6 + a0_0.size ≤ 9223372036854775807) = true := decide_eq_true c2
  try have c2b2 : (9223372036854775807 < 6 + a0_0.size) = False := eq_false (Nat.not_lt.2 c2)
  obtain ⟨y222, hy222⟩ : ∃ y_ : List ByteArray, y_ = (([(⟨#[66, 69, 71, 73, 78, 58]⟩ : ByteArray) ++ a0_0] : List ByteArray)) := ⟨_, rfl⟩; replace H : (tree_lines.l0 k y222 l0_1 (l0_1.length : Int) 0 a0_0 l0_1 l0_2) = some (r1, r2) := by first | (rw [hy222]; with_reducible exact H) | (have H2_ := (Option.bind_some _ _).symm.trans H; rw [hy222]; with_reducible exact H2_) | (have H2_ := (Option.bind_some _ _).symm.trans H; with_reducible exact H2_) | with_reducible exact H | (rw [hy222]; exact H) | exact H
  have Ny222 := Aside0.mk hy222; clear hy222; have H' := Aside0.mk H; clear H
  go_enter Tryz.func21, Tryz.ntmps21
  go_wp2_with (first | ((with_reducible refine gate_dst (N := 1) rfl ?_); refine zbox (N := 1) #[.string a0_0, .slice A0_1 l0_1.length c0_1, .slice A0_2 l0_2.length c0_2] 31 (fun gb221 hg w3 hbox hb => ?_); have n0_ := zw hb; have n1_ := Aside0.mk hbox; have n2_ := zg w hg; have n3_ := zg w hg; clear HB; have HB := n0_; have BK221 := n1_; have GW221 := n2_; have GE221 := n3_; clear n0_ n1_ n2_ n3_; clear hb hbox hg; have hcz4_0 := zc0 BK221; have hcz4_1 := zc1 BK221; have hcz4_2 := zc2 BK221; have hfz4_0 := zf BK221 0; have hfz4_1 := zf BK221 1; have hfz4_2 := zf BK221 2) | ((with_reducible refine gate_dst (N := 16) rfl ?_); refine Kd.R_lit Kd.string _ 9 ?hg (N := 16) ?hd (xs := ([(⟨#[66, 69, 71, 73, 78, 58]⟩ : ByteArray) ++ a0_0] : List ByteArray)) (inner := [.string ((⟨#[66, 69, 71, 73, 78, 58]⟩ : ByteArray) ++ a0_0)]) (ok := fun _ => True) (okp := fun _ => True) ?hr ?hp (fun _ hk => hk) trivial (Below.refl _ _) (Nat.le_refl _) (by simp) ?_; (case hd => rfl); (case hg => rfl); (case hr => first | (go_simp; done) | (go_simp; rfl)); (case hp => exact (Reps.one (show Kd.M Kd.string _ _ _ ((⟨#[66, 69, 71, 73, 78, 58]⟩ : ByteArray) ++ a0_0) [.string ((⟨#[66, 69, 71, 73, 78, 58]⟩ : ByteArray) ++ a0_0)] from rfl) (Reps.none _ _))); intro v223 w5 ho6 hb hg_ hnew_; clear hg_ hnew_; (first | rw [← Ny222.out] at ho6 | (simp only [Int.reduceToNat] at ho6; rw [← Ny222.out] at ho6)); replace HO224 := Aside0.mk (Kd.R_lower ho6 (below_size zB)); replace BK221 := zb BK221 hb; replace HB := zw hb; clear hb ho6; have hcz7_0 := zc0 BK221; have hcz7_1 := zc1 BK221; have hcz7_2 := zc2 BK221; have hfz7_0 := zf BK221 0; have hfz7_1 := zf BK221 1; have hfz7_2 := zf BK221 2))
  go_loopg [4, 20] k (fun kq v4 v20 w' => ∃ (x4_1 : List ByteArray) (x20_1 : Int), v20 = .int .i64 x20_1 ∧ Aside0 (tree_lines.l0 kq x4_1 l0_1 (l0_1.length : Int) x20_1 a0_0 l0_1 l0_2 = some (r1, r2)) ∧ Aside0 (kq ≤ k) ∧ Aside0 (Kd.R Kd.string 9 w' w.heap.size (fun _ => True) v4 x4_1) ∧ Aside0 (w'.heap[gb221]? = some (.cells #[.string a0_0, (.slice A0_1 l0_1.length c0_1), (.slice A0_2 l0_2.length c0_2)] 31 (0, 0))) ∧ Aside0 (Below w.heap.size w w'))
  case atStart => exact ⟨(y222), (0), zS, H', ⟨Nat.le_refl _⟩, ⟨Kd.R_below HO224.out zX⟩, ⟨blk_below BK221.out zX⟩, ⟨zB⟩⟩
  case round =>
   clear H'; clear c2 c2b0 c2b1 hcz4_0 hcz4_1 hcz4_2 hcz7_0 hcz7_1 hcz7_2 hfz4_0 hfz4_1 hfz4_2 hfz7_0 hfz7_1 hfz7_2; obtain ⟨x4_1, x20_1, rfl, HA, HK1, HO_4, BK221, HB⟩ := hrel
   cases gk with
   | zero => exact absurd HA.out (by simp [tree_lines.l0])
   | succ k1 =>
    have H := HA.out; clear HA; simp only [tree_lines.l0] at H; replace H := zId H; rcases H with ⟨-, c8b0, H⟩ | ⟨-, c8b0, H⟩
    ·replace H := zJd H; obtain ⟨-, c9b0, H⟩ := H; replace H := zJd H; obtain ⟨-, c10b0, H⟩ := H; replace H := Option.bind_eq_some_iff.mp H; obtain ⟨⟨t227, t228⟩, A110, H⟩ := H; replace H : (if t228 = 0 then (if x4_1.length < 8796093022208 then (tree_lines.l0 k1 (x4_1 ++ [t227]) l0_1 (l0_1.length : Int) (wrap64 (x20_1 + 1)) a0_0 l0_1 l0_2) else (none)) else (some (([] : List ByteArray), t228))) = some (r1, r2) := H; have A11 := Aside0.mk A110; clear A110; replace H := zIe H; rcases H with ⟨-, c12b0, c12b1, H⟩ | ⟨c12, c12b0, c12b1, H⟩
     ·replace H := zJ H; obtain ⟨c13, H⟩ := H; have LMc13 := Aside0.mk c13; clear c13; obtain ⟨y229, hy229⟩ : ∃ y_ : List ByteArray, y_ = (x4_1 ++ [t227]) := ⟨_, rfl⟩; replace H : (tree_lines.l0 k1 y229 l0_1 (l0_1.length : Int) (wrap64 (x20_1 + 1)) a0_0 l0_1 l0_2) = some (r1, r2) := by first | (rw [hy229]; with_reducible exact H) | (have H2_ := (Option.bind_some _ _).symm.trans H; rw [hy229]; with_reducible exact H2_) | (have H2_ := (Option.bind_some _ _).symm.trans H; with_reducible exact H2_) | with_reducible exact H | (rw [hy229]; exact H) | exact H
      have Ny229 := Aside0.mk hy229; clear hy229; have H' := Aside0.mk H; clear H; have p225 := zQ (0 ≤ (x20_1 : Int)); have q225 := zQ (x20_1 < (l0_1.length : Int)); obtain ⟨ad225, A225_1, c225_1, e225, hx225_0, hx225_1, hx225_2, hl225_1, hi225_1⟩ := at_T49 HR0_1.out x20_1 p225 q225
      cases e225
      replace hx225_0 := zx HB hx225_0; replace hx225_1 := zx HB hx225_1; replace hx225_2 := zx HB hx225_2; have HR225_1 := Aside0.mk hi225_1; have HC225_1 := Aside0.mk hl225_1; clear hi225_1 hl225_1; replace p225 := eq_true p225; replace q225 := eq_true q225
      go_wp2_with (first | ((with_reducible refine gate_dst (N := 6) rfl ?_); refine zbox (N := 6) #[.string (⟨#[]⟩ : ByteArray), .slice none 0 0, .string (⟨#[]⟩ : ByteArray)] 49 (fun gb226 hg w14 hbox hb => ?_); replace HO_4 := Aside0.mk (Kd.R_below (Kd.R_below HO_4.out zX) hb); replace BK226 := Aside0.mk hbox; replace GW226 := zg w hg; replace GE226 := zg w hg; replace HB := zw hb; replace NB221_226 := zn BK221 hg; replace NB226_221 := zm BK221 hg; replace BK221 := zb BK221 hb; clear hb hbox hg; have hnb15 := NB226_221.out; have hnc15 := NB221_226.out; have hcz16_0 := zc0 BK226; have hcz16_1 := zc1 BK226; have hcz16_2 := zc2 BK226; have hfz16_0 := zf BK226 0; have hfz16_1 := zf BK226 1; have hfz16_2 := zf BK226 2) | ((with_reducible refine gate_callee (f := 36) rfl ?_); refine goesL_ (some 26) rfl rfl Tryz.func36 (by kernel_rfl) rfl #[.agg #[.string ((rd_T49 l0_1 x20_1).f0), .slice A225_1 ((rd_T49 l0_1 x20_1).f1).length c225_1, .string ((rd_T49 l0_1 x20_1).f2)]] rfl zA ?_; (with_reducible refine (line_Print.calls k1 ((rd_T49 l0_1 x20_1).f0) _ _ ((rd_T49 l0_1 x20_1).f1) ((rd_T49 l0_1 x20_1).f2) t227 t228 _ zG ?side1 ?side2 A11.out).mono ?_); (case side1 => exact Kd.C_below HR225_1.out zB); (case side2 => exact HC225_1.out); rintro e w17 ⟨rfl, hb⟩; refine ⟨_, rfl, ?_⟩; replace HO_4 := Aside0.mk (Kd.R_below (by (with_reducible repeat (first | apply Kd.R_alloc | apply Kd.R_drewN | apply Kd.R_drew)); exact (Kd.R_mono (Kd.R_far (p := ⟨gb226, 2, none⟩) (Kd.R_far (p := ⟨gb226, 1, none⟩) (Kd.R_far (p := ⟨gb226, 0, none⟩) (Kd.R_types HO_4.out BK226.out (by decide)) (fun _ hk => hk.2) (.string ((rd_T49 l0_1 x20_1).f0))) (fun _ hk => hk.2) (.slice A225_1 ((rd_T49 l0_1 x20_1).f1).length c225_1)) (fun _ hk => hk.2) (.string ((rd_T49 l0_1 x20_1).f2))) (fun _ h_ => h_.1))) hb); replace BK221 := Aside0.mk (blk_below (g := gb221) (o := .cells #[.string a0_0, .slice (some ad225) l0_1.length c0_1, .slice A0_2 l0_2.length c0_2] 31 (0, 0)) (by (with_reducible repeat (first | refine blk_drewN ?_ _ | refine blk_drew ?_ | refine blk_alloc ?_ _)); refine blk_far ?_ NB221_226.out _; (with_reducible repeat (first | refine blk_drewN ?_ _ | refine blk_drew ?_ | refine blk_alloc ?_ _)); refine blk_far ?_ NB221_226.out _; (with_reducible repeat (first | refine blk_drewN ?_ _ | refine blk_drew ?_ | refine blk_alloc ?_ _)); refine blk_far ?_ NB221_226.out _; (with_reducible repeat (first | refine blk_drewN ?_ _ | refine blk_drew ?_ | refine blk_alloc ?_ _)); exact BK221.out) hb); replace BK226 := Aside0.mk (blk_below (g := gb226) (o := .cells #[.string ((rd_T49 l0_1 x20_1).f0), .slice A225_1 ((rd_T49 l0_1 x20_1).f1).length c225_1, .string ((rd_T49 l0_1 x20_1).f2)] 49 (0, 0)) (by (with_reducible repeat (first | refine blk_drewN ?_ _ | refine blk_drew ?_ | refine blk_alloc ?_ _)); refine blk_put (cs := #[.string ((rd_T49 l0_1 x20_1).f0), .slice A225_1 ((rd_T49 l0_1 x20_1).f1).length c225_1, .string (⟨#[]⟩ : ByteArray)]) ?_ 2 _ rfl; (with_reducible repeat (first | refine blk_drewN ?_ _ | refine blk_drew ?_ | refine blk_alloc ?_ _)); refine blk_put (cs := #[.string ((rd_T49 l0_1 x20_1).f0), .slice none 0 0, .string (⟨#[]⟩ : ByteArray)]) ?_ 1 _ rfl; (with_reducible repeat (first | refine blk_drewN ?_ _ | refine blk_drew ?_ | refine blk_alloc ?_ _)); refine blk_put (cs := #[.string (⟨#[]⟩ : ByteArray), .slice none 0 0, .string (⟨#[]⟩ : ByteArray)]) ?_ 0 _ rfl; (with_reducible repeat (first | refine blk_drewN ?_ _ | refine blk_drew ?_ | refine blk_alloc ?_ _)); exact BK226.out) hb); replace HB := zw hb; (try clear hb)) | ((with_reducible refine gate_builtin (b := .append) (xs := #[.tmp 32, .tmp 34]) rfl ?_); at_builtin; refine Kd.R_append Kd.string (w0 := w) w.heap.size rfl (.tmp 32) (.tmp 34) 54 9 (.string ⟨#[]⟩) 16 rfl Tryz.underlying54 info9 rfl (by decide) (by omega) u4 x4_1 t227 [.string t227] (fun _ => True) (fun _ => False) rfl rfl ?aP (fun _ hk => hk.elim) ?aF ?aO ?aB ?aS ?aL ?_; (case aP => exact rfl); (case aB => exact zB); (case aF => exact (fun _ _ => trivial)); (case aO => exact (Kd.R_below HO_4.out zX)); (case aS => exact (below_size zB)); (case aL => have := LMc13.out; omega); intro v230 w18 ho hb hg hat; rw [← Ny229.out] at ho; have n0_ := Aside0.mk (blk_grown (g := gb221) (o := .cells #[.string a0_0, .slice (some ad225) l0_1.length c0_1, .slice A0_2 l0_2.length c0_2] 31 (0, 0)) (blk_below BK221.out zX) hg (Kd.R_ne HO_4.out BK221.out (by decide))); have n1_ := Aside0.mk (blk_grown (g := gb226) (o := .cells #[.string ((rd_T49 l0_1 x20_1).f0), .slice A225_1 ((rd_T49 l0_1 x20_1).f1).length c225_1, .string ((rd_T49 l0_1 x20_1).f2)] 49 (0, 0)) (blk_below BK226.out zX) hg (Kd.R_ne HO_4.out BK226.out (by decide))); have n2_ := Aside0.mk (hb); have n3_ := Aside0.mk (ho); clear BK221; clear BK226; clear HB; clear HO_4; have BK221 := n0_; have BK226 := n1_; have HB := n2_; have HO231 := n3_; clear n0_ n1_ n2_ n3_; clear ho hb hg hat))
      go_roundg k1
      case measure => have := HK1.out; omega
      case rel => exact ⟨(y229), (wrap64 (x20_1 + 1)), zS, H', ⟨by have := HK1.out; omega⟩, ⟨Kd.R_below HO231.out zX⟩, ⟨blk_below BK221.out zX⟩, ⟨zB⟩⟩
     ·simp only [Option.some.injEq, Prod.mk.injEq] at H; obtain ⟨rfl, rfl⟩ := H; have p225 := zQ (0 ≤ (x20_1 : Int)); have q225 := zQ (x20_1 < (l0_1.length : Int)); obtain ⟨ad225, A225_1, c225_1, e225, hx225_0, hx225_1, hx225_2, hl225_1, hi225_1⟩ := at_T49 HR0_1.out x20_1 p225 q225
      cases e225
      replace hx225_0 := zx HB hx225_0; replace hx225_1 := zx HB hx225_1; replace hx225_2 := zx HB hx225_2; have HR225_1 := Aside0.mk hi225_1; have HC225_1 := Aside0.mk hl225_1; clear hi225_1 hl225_1; replace p225 := eq_true p225; replace q225 := eq_true q225
      go_wp2_with (first | ((with_reducible refine gate_dst (N := 6) rfl ?_); refine zbox (N := 6) #[.string (⟨#[]⟩ : ByteArray), .slice none 0 0, .string (⟨#[]⟩ : ByteArray)] 49 (fun gb226 hg w19 hbox hb => ?_); replace HO_4 := Aside0.mk (Kd.R_below (Kd.R_below HO_4.out zX) hb); replace BK226 := Aside0.mk hbox; replace GW226 := zg w hg; replace GE226 := zg w hg; replace HB := zw hb; replace NB221_226 := zn BK221 hg; replace NB226_221 := zm BK221 hg; replace BK221 := zb BK221 hb; clear hb hbox hg; have hnb20 := NB226_221.out; have hnc20 := NB221_226.out; have hcz21_0 := zc0 BK226; have hcz21_1 := zc1 BK226; have hcz21_2 := zc2 BK226; have hfz21_0 := zf BK226 0; have hfz21_1 := zf BK226 1; have hfz21_2 := zf BK226 2) | ((with_reducible refine gate_callee (f := 36) rfl ?_); refine goesL_ (some 26) rfl rfl Tryz.func36 (by kernel_rfl) rfl #[.agg #[.string ((rd_T49 l0_1 x20_1).f0), .slice A225_1 ((rd_T49 l0_1 x20_1).f1).length c225_1, .string ((rd_T49 l0_1 x20_1).f2)]] rfl zA ?_; (with_reducible refine (line_Print.calls k1 ((rd_T49 l0_1 x20_1).f0) _ _ ((rd_T49 l0_1 x20_1).f1) ((rd_T49 l0_1 x20_1).f2) t227 t228 _ zG ?side1 ?side2 A11.out).mono ?_); (case side1 => exact Kd.C_below HR225_1.out zB); (case side2 => exact HC225_1.out); rintro e w22 ⟨rfl, hb⟩; refine ⟨_, rfl, ?_⟩; replace HO_4 := Aside0.mk (Kd.R_below (by (with_reducible repeat (first | apply Kd.R_alloc | apply Kd.R_drewN | apply Kd.R_drew)); exact (Kd.R_mono (Kd.R_far (p := ⟨gb226, 2, none⟩) (Kd.R_far (p := ⟨gb226, 1, none⟩) (Kd.R_far (p := ⟨gb226, 0, none⟩) (Kd.R_types HO_4.out BK226.out (by decide)) (fun _ hk => hk.2) (.string ((rd_T49 l0_1 x20_1).f0))) (fun _ hk => hk.2) (.slice A225_1 ((rd_T49 l0_1 x20_1).f1).length c225_1)) (fun _ hk => hk.2) (.string ((rd_T49 l0_1 x20_1).f2))) (fun _ h_ => h_.1))) hb); replace BK221 := Aside0.mk (blk_below (g := gb221) (o := .cells #[.string a0_0, .slice (some ad225) l0_1.length c0_1, .slice A0_2 l0_2.length c0_2] 31 (0, 0)) (by (with_reducible repeat (first | refine blk_drewN ?_ _ | refine blk_drew ?_ | refine blk_alloc ?_ _)); refine blk_far ?_ NB221_226.out _; (with_reducible repeat (first | refine blk_drewN ?_ _ | refine blk_drew ?_ | refine blk_alloc ?_ _)); refine blk_far ?_ NB221_226.out _; (with_reducible repeat (first | refine blk_drewN ?_ _ | refine blk_drew ?_ | refine blk_alloc ?_ _)); refine blk_far ?_ NB221_226.out _; (with_reducible repeat (first | refine blk_drewN ?_ _ | refine blk_drew ?_ | refine blk_alloc ?_ _)); exact BK221.out) hb); replace BK226 := Aside0.mk (blk_below (g := gb226) (o := .cells #[.string ((rd_T49 l0_1 x20_1).f0), .slice A225_1 ((rd_T49 l0_1 x20_1).f1).length c225_1, .string ((rd_T49 l0_1 x20_1).f2)] 49 (0, 0)) (by (with_reducible repeat (first | refine blk_drewN ?_ _ | refine blk_drew ?_ | refine blk_alloc ?_ _)); refine blk_put (cs := #[.string ((rd_T49 l0_1 x20_1).f0), .slice A225_1 ((rd_T49 l0_1 x20_1).f1).length c225_1, .string (⟨#[]⟩ : ByteArray)]) ?_ 2 _ rfl; (with_reducible repeat (first | refine blk_drewN ?_ _ | refine blk_drew ?_ | refine blk_alloc ?_ _)); refine blk_put (cs := #[.string ((rd_T49 l0_1 x20_1).f0), .slice none 0 0, .string (⟨#[]⟩ : ByteArray)]) ?_ 1 _ rfl; (with_reducible repeat (first | refine blk_drewN ?_ _ | refine blk_drew ?_ | refine blk_alloc ?_ _)); refine blk_put (cs := #[.string (⟨#[]⟩ : ByteArray), .slice none 0 0, .string (⟨#[]⟩ : ByteArray)]) ?_ 0 _ rfl; (with_reducible repeat (first | refine blk_drewN ?_ _ | refine blk_drew ?_ | refine blk_alloc ?_ _)); exact BK226.out) hb); replace HB := zw hb; (try clear hb)))
      go_ret2; exact ⟨_, zE, by first | exact Kd.R_nil _ _ _ _ _ | exact Kd.N_nil _ _ _ _ _ | exact Kd.V_nil _ _ _ _ _ | exact Kd.Q_nil _ _ _ _ _ | exact Kd.S_nil _ _ _ _ _, zB⟩
    ·have H' := Aside0.mk H; clear H; have hcz23_0 := zc0 BK221; have hcz23_1 := zc1 BK221; have hcz23_2 := zc2 BK221; have hfz23_0 := zf BK221 0; have hfz23_1 := zf BK221 1; have hfz23_2 := zf BK221 2; go_wp2
     go_loopg [4, 40] k1 (fun kq v4 v40 w' => ∃ (x4_2 : List ByteArray) (x40_2 : Int), v40 = .int .i64 x40_2 ∧ Aside0 (tree_lines.l1 kq x4_2 l0_2 (l0_2.length : Int) x40_2 a0_0 l0_1 l0_2 = some (r1, r2)) ∧ Aside0 (kq ≤ k1) ∧ Aside0 (Kd.R Kd.string 9 w' w.heap.size (fun _ => True) v4 x4_2) ∧ Aside0 (w'.heap[gb221]? = some (.cells #[.string a0_0, (.slice A0_1 l0_1.length c0_1), (.slice A0_2 l0_2.length c0_2)] 31 (0, 0))) ∧ Aside0 (Below w.heap.size w w'))
     case atStart => exact ⟨(x4_1), (0), zS, H', ⟨Nat.le_refl _⟩, ⟨Kd.R_below HO_4.out zX⟩, ⟨blk_below BK221.out zX⟩, ⟨zB⟩⟩
     case round =>
      clear H'; clear c8b0 hcz23_0 hcz23_1 hcz23_2 hfz23_0 hfz23_1 hfz23_2; obtain ⟨x4_2, x40_2, rfl, HA, HK2, HO_4, BK221, HB⟩ := hrel
      cases gk with
      | zero => exact absurd HA.out (by simp [tree_lines.l1])
      | succ k2 =>
       have H := HA.out; clear HA; simp only [tree_lines.l1] at H; replace H := zId H; rcases H with ⟨-, c24b0, H⟩ | ⟨-, c24b0, H⟩
       ·replace H := zJd H; obtain ⟨-, c25b0, H⟩ := H; replace H := zJd H; obtain ⟨-, c26b0, H⟩ := H; replace H := Option.bind_eq_some_iff.mp H; obtain ⟨⟨t234, t237⟩, A270, H⟩ := H; replace H : (if t237 = 0 then (if x4_2.length + t234.length < 8796093022208 then (tree_lines.l1 k2 (x4_2 ++ t234) l0_2 (l0_2.length : Int) (wrap64 (x40_2 + 1)) a0_0 l0_1 l0_2) else (none)) else (some (([] : List ByteArray), t237))) = some (r1, r2) := H; have A27 := Aside0.mk A270; clear A270; replace H := zIe H; rcases H with ⟨-, c28b0, c28b1, H⟩ | ⟨c28, c28b0, c28b1, H⟩
        ·replace H := zJ H; obtain ⟨c29, H⟩ := H; have LMc29 := Aside0.mk c29; clear c29; obtain ⟨y238, hy238⟩ : ∃ y_ : List ByteArray, y_ = (x4_2 ++ t234) := ⟨_, rfl⟩; replace H : (tree_lines.l1 k2 y238 l0_2 (l0_2.length : Int) (wrap64 (x40_2 + 1)) a0_0 l0_1 l0_2) = some (r1, r2) := by first | (rw [hy238]; with_reducible exact H) | (have H2_ := (Option.bind_some _ _).symm.trans H; rw [hy238]; with_reducible exact H2_) | (have H2_ := (Option.bind_some _ _).symm.trans H; with_reducible exact H2_) | with_reducible exact H | (rw [hy238]; exact H) | exact H
         have Ny238 := Aside0.mk hy238; clear hy238; have H' := Aside0.mk H; clear H; have p232 := zQ (0 ≤ (x40_2 : Int)); have q232 := zQ (x40_2 < (l0_2.length : Int)); obtain ⟨ad232, A232_1, c232_1, A232_2, c232_2, e232, hx232_0, hx232_1, hx232_2, hl232_1, hi232_1, hl232_2, hi232_2⟩ := at_T31 HR0_2.out x40_2 p232 q232
         cases e232
         replace hx232_0 := zx HB hx232_0; replace hx232_1 := zx HB hx232_1; replace hx232_2 := zx HB hx232_2; have HR232_1 := Aside0.mk hi232_1; have HC232_1 := Aside0.mk hl232_1; clear hi232_1 hl232_1; have HR232_2 := Aside0.mk hi232_2; have HC232_2 := Aside0.mk hl232_2; clear hi232_2 hl232_2; replace p232 := eq_true p232; replace q232 := eq_true q232
         go_wp2_with (first | ((with_reducible refine gate_dst (N := 10) rfl ?_); refine zbox (N := 10) #[.string (⟨#[]⟩ : ByteArray), .slice none 0 0, .slice none 0 0] 31 (fun gb233 hg w30 hbox hb => ?_); replace HO_4 := Aside0.mk (Kd.R_below (Kd.R_below HO_4.out zX) hb); replace BK233 := Aside0.mk hbox; replace GW233 := zg w hg; replace GE233 := zg w hg; replace HB := zw hb; replace NB221_233 := zn BK221 hg; replace NB233_221 := zm BK221 hg; replace BK221 := zb BK221 hb; clear hb hbox hg; have hnb31 := NB233_221.out; have hnc31 := NB221_233.out; have hcz32_0 := zc0 BK233; have hcz32_1 := zc1 BK233; have hcz32_2 := zc2 BK233; have hfz32_0 := zf BK233 0; have hfz32_1 := zf BK233 1; have hfz32_2 := zf BK233 2) | ((with_reducible refine gate_callee (f := 21) rfl ?_); refine goesL_ (some 46) rfl rfl Tryz.func21 (by kernel_rfl) rfl #[.agg #[.string ((rd_T31 l0_2 x40_2).f0), .slice A232_1 ((rd_T31 l0_2 x40_2).f1).length c232_1, .slice A232_2 ((rd_T31 l0_2 x40_2).f2).length c232_2]] rfl zA ?_; (with_reducible refine (ih k2 (by have := HK1.out; have := HK2.out; omega) ((rd_T31 l0_2 x40_2).f0) _ _ ((rd_T31 l0_2 x40_2).f1) _ _ ((rd_T31 l0_2 x40_2).f2) t234 t237 _ zG ?side1 ?side2 ?side3 ?side4 A27.out).mono ?_); (case side1 => exact Kd.C_below HR232_1.out zB); (case side2 => exact HC232_1.out); (case side3 => exact Kd.C_below HR232_2.out zB); (case side4 => exact HC232_2.out); rintro e w33 ⟨v235, rfl, ho0, hb⟩; refine ⟨_, rfl, ?_⟩; replace HO236 := Aside0.mk (Kd.R_lower (Kd.R_new' ho0 (Kd.R_lt (by (with_reducible repeat (first | apply Kd.R_alloc | apply Kd.R_drewN | apply Kd.R_drew)); exact (Kd.R_mono (Kd.R_far (p := ⟨gb233, 2, none⟩) (Kd.R_far (p := ⟨gb233, 1, none⟩) (Kd.R_far (p := ⟨gb233, 0, none⟩) (Kd.R_types HO_4.out BK233.out (by decide)) (fun _ hk => hk.2) (.string ((rd_T31 l0_2 x40_2).f0))) (fun _ hk => hk.2) (.slice A232_1 ((rd_T31 l0_2 x40_2).f1).length c232_1)) (fun _ hk => hk.2) (.slice A232_2 ((rd_T31 l0_2 x40_2).f2).length c232_2)) (fun _ h_ => h_.1))))) (below_size zB)); replace HO_4 := Aside0.mk (Kd.R_elder' (by (with_reducible repeat (first | apply Kd.R_alloc | apply Kd.R_drewN | apply Kd.R_drew)); exact (Kd.R_mono (Kd.R_far (p := ⟨gb233, 2, none⟩) (Kd.R_far (p := ⟨gb233, 1, none⟩) (Kd.R_far (p := ⟨gb233, 0, none⟩) (Kd.R_types HO_4.out BK233.out (by decide)) (fun _ hk => hk.2) (.string ((rd_T31 l0_2 x40_2).f0))) (fun _ hk => hk.2) (.slice A232_1 ((rd_T31 l0_2 x40_2).f1).length c232_1)) (fun _ hk => hk.2) (.slice A232_2 ((rd_T31 l0_2 x40_2).f2).length c232_2)) (fun _ h_ => h_.1))) (Kd.R_base ho0) hb); replace BK221 := Aside0.mk (blk_below (g := gb221) (o := .cells #[.string a0_0, .slice A0_1 l0_1.length c0_1, .slice (some ad232) l0_2.length c0_2] 31 (0, 0)) (by (with_reducible repeat (first | refine blk_drewN ?_ _ | refine blk_drew ?_ | refine blk_alloc ?_ _)); refine blk_far ?_ NB221_233.out _; (with_reducible repeat (first | refine blk_drewN ?_ _ | refine blk_drew ?_ | refine blk_alloc ?_ _)); refine blk_far ?_ NB221_233.out _; (with_reducible repeat (first | refine blk_drewN ?_ _ | refine blk_drew ?_ | refine blk_alloc ?_ _)); refine blk_far ?_ NB221_233.out _; (with_reducible repeat (first | refine blk_drewN ?_ _ | refine blk_drew ?_ | refine blk_alloc ?_ _)); exact BK221.out) hb); replace BK233 := Aside0.mk (blk_below (g := gb233) (o := .cells #[.string ((rd_T31 l0_2 x40_2).f0), .slice A232_1 ((rd_T31 l0_2 x40_2).f1).length c232_1, .slice A232_2 ((rd_T31 l0_2 x40_2).f2).length c232_2] 31 (0, 0)) (by (with_reducible repeat (first | refine blk_drewN ?_ _ | refine blk_drew ?_ | refine blk_alloc ?_ _)); refine blk_put (cs := #[.string ((rd_T31 l0_2 x40_2).f0), .slice A232_1 ((rd_T31 l0_2 x40_2).f1).length c232_1, .slice none 0 0]) ?_ 2 _ rfl; (with_reducible repeat (first | refine blk_drewN ?_ _ | refine blk_drew ?_ | refine blk_alloc ?_ _)); refine blk_put (cs := #[.string ((rd_T31 l0_2 x40_2).f0), .slice none 0 0, .slice none 0 0]) ?_ 1 _ rfl; (with_reducible repeat (first | refine blk_drewN ?_ _ | refine blk_drew ?_ | refine blk_alloc ?_ _)); refine blk_put (cs := #[.string (⟨#[]⟩ : ByteArray), .slice none 0 0, .slice none 0 0]) ?_ 0 _ rfl; (with_reducible repeat (first | refine blk_drewN ?_ _ | refine blk_drew ?_ | refine blk_alloc ?_ _)); exact BK233.out) hb); replace HB := zw hb; (try clear hb); (try clear ho0); obtain ⟨Ao35, co35, eo35⟩ := Kd.R_slice HO236.out; subst eo35) | ((with_reducible refine gate_builtin (b := .append) (xs := #[.tmp 52, .tmp 53]) rfl ?_); at_builtin; refine Kd.R_append_rows Kd.string (w0 := w) w.heap.size rfl (.tmp 52) (.tmp 53) 54 9 (.string ⟨#[]⟩) 16 rfl Tryz.underlying54 info9 rfl (by decide) (by omega) u4 x4_2 t234 _ _ _ (fun k_ => some k_ ≠ (.slice Ao35 t234.length co35 : Value).ownBlock) (fun _ => False) rfl rfl ?aO ?aR (fun _ _ h => h) (fun _ h => h.elim) ?aF ?aB ?aS ?aL ?_; (case aR => repeat (first | exact (Kd.R_reads' HO236.out).2.2 | (with_reducible refine Kd.C_alloc ?_ _) | (with_reducible refine Kd.C_drewN ?_ _) | (with_reducible refine Kd.C_drew ?_))); (case aB => exact zB); (case aF => exact (fun k_ hk => Kd.fresh' (Kd.R_lt (Kd.R_below HO236.out zX)) k_ hk)); (case aO => exact (by (with_reducible repeat (first | apply Kd.R_alloc | apply Kd.R_drewN | apply Kd.R_drew)); exact Kd.R_mono HO_4.out (fun _ hk => hk.2))); (case aS => exact (below_size zB)); (case aL => have := LMc29.out; omega); intro v239 w34 ho hb hg hat; rw [← Ny238.out] at ho; have n0_ := Aside0.mk (blk_grown (g := gb221) (o := .cells #[.string a0_0, .slice A0_1 l0_1.length c0_1, .slice (some ad232) l0_2.length c0_2] 31 (0, 0)) (blk_below BK221.out zX) hg (Kd.R_ne HO_4.out BK221.out (by decide))); have n1_ := Aside0.mk (blk_grown (g := gb233) (o := .cells #[.string ((rd_T31 l0_2 x40_2).f0), .slice A232_1 ((rd_T31 l0_2 x40_2).f1).length c232_1, .slice A232_2 ((rd_T31 l0_2 x40_2).f2).length c232_2] 31 (0, 0)) (blk_below BK233.out zX) hg (Kd.R_ne HO_4.out BK233.out (by decide))); have n2_ := Aside0.mk (Kd.R_after (ok := (fun _ => True)) (Kd.R_below HO236.out zX) hg hat); have n3_ := Aside0.mk (hb); have n4_ := Aside0.mk (ho); clear BK221; clear BK233; clear HO236; clear HB; clear HO_4; have BK221 := n0_; have BK233 := n1_; have HO236 := n2_; have HB := n3_; have HO240 := n4_; clear n0_ n1_ n2_ n3_ n4_; clear ho hb hg hat))
         go_roundg k2
         case measure => have := HK1.out; have := HK2.out; omega
         case rel => exact ⟨(y238), (wrap64 (x40_2 + 1)), zS, H', ⟨by have := HK1.out; have := HK2.out; omega⟩, ⟨by (with_reducible repeat (first | apply Kd.R_alloc | apply Kd.R_drewN | apply Kd.R_drew)); exact Kd.R_mono HO240.out (fun _ hk => trivial)⟩, ⟨blk_below BK221.out zX⟩, ⟨zB⟩⟩
        ·simp only [Option.some.injEq, Prod.mk.injEq] at H; obtain ⟨rfl, rfl⟩ := H; have p232 := zQ (0 ≤ (x40_2 : Int)); have q232 := zQ (x40_2 < (l0_2.length : Int)); obtain ⟨ad232, A232_1, c232_1, A232_2, c232_2, e232, hx232_0, hx232_1, hx232_2, hl232_1, hi232_1, hl232_2, hi232_2⟩ := at_T31 HR0_2.out x40_2 p232 q232
         cases e232
         replace hx232_0 := zx HB hx232_0; replace hx232_1 := zx HB hx232_1; replace hx232_2 := zx HB hx232_2; have HR232_1 := Aside0.mk hi232_1; have HC232_1 := Aside0.mk hl232_1; clear hi232_1 hl232_1; have HR232_2 := Aside0.mk hi232_2; have HC232_2 := Aside0.mk hl232_2; clear hi232_2 hl232_2; replace p232 := eq_true p232; replace q232 := eq_true q232
         go_wp2_with (first | ((with_reducible refine gate_dst (N := 10) rfl ?_); refine zbox (N := 10) #[.string (⟨#[]⟩ : ByteArray), .slice none 0 0, .slice none 0 0] 31 (fun gb233 hg w36 hbox hb => ?_); replace HO_4 := Aside0.mk (Kd.R_below (Kd.R_below HO_4.out zX) hb); replace BK233 := Aside0.mk hbox; replace GW233 := zg w hg; replace GE233 := zg w hg; replace HB := zw hb; replace NB221_233 := zn BK221 hg; replace NB233_221 := zm BK221 hg; replace BK221 := zb BK221 hb; clear hb hbox hg; have hnb37 := NB233_221.out; have hnc37 := NB221_233.out; have hcz38_0 := zc0 BK233; have hcz38_1 := zc1 BK233; have hcz38_2 := zc2 BK233; have hfz38_0 := zf BK233 0; have hfz38_1 := zf BK233 1; have hfz38_2 := zf BK233 2) | ((with_reducible refine gate_callee (f := 21) rfl ?_); refine goesL_ (some 46) rfl rfl Tryz.func21 (by kernel_rfl) rfl #[.agg #[.string ((rd_T31 l0_2 x40_2).f0), .slice A232_1 ((rd_T31 l0_2 x40_2).f1).length c232_1, .slice A232_2 ((rd_T31 l0_2 x40_2).f2).length c232_2]] rfl zA ?_; (with_reducible refine (ih k2 (by have := HK1.out; have := HK2.out; omega) ((rd_T31 l0_2 x40_2).f0) _ _ ((rd_T31 l0_2 x40_2).f1) _ _ ((rd_T31 l0_2 x40_2).f2) t234 t237 _ zG ?side1 ?side2 ?side3 ?side4 A27.out).mono ?_); (case side1 => exact Kd.C_below HR232_1.out zB); (case side2 => exact HC232_1.out); (case side3 => exact Kd.C_below HR232_2.out zB); (case side4 => exact HC232_2.out); rintro e w39 ⟨v235, rfl, ho0, hb⟩; refine ⟨_, rfl, ?_⟩; replace HO236 := Aside0.mk (Kd.R_lower (Kd.R_new' ho0 (Kd.R_lt (by (with_reducible repeat (first | apply Kd.R_alloc | apply Kd.R_drewN | apply Kd.R_drew)); exact (Kd.R_mono (Kd.R_far (p := ⟨gb233, 2, none⟩) (Kd.R_far (p := ⟨gb233, 1, none⟩) (Kd.R_far (p := ⟨gb233, 0, none⟩) (Kd.R_types HO_4.out BK233.out (by decide)) (fun _ hk => hk.2) (.string ((rd_T31 l0_2 x40_2).f0))) (fun _ hk => hk.2) (.slice A232_1 ((rd_T31 l0_2 x40_2).f1).length c232_1)) (fun _ hk => hk.2) (.slice A232_2 ((rd_T31 l0_2 x40_2).f2).length c232_2)) (fun _ h_ => h_.1))))) (below_size zB)); replace HO_4 := Aside0.mk (Kd.R_elder' (by (with_reducible repeat (first | apply Kd.R_alloc | apply Kd.R_drewN | apply Kd.R_drew)); exact (Kd.R_mono (Kd.R_far (p := ⟨gb233, 2, none⟩) (Kd.R_far (p := ⟨gb233, 1, none⟩) (Kd.R_far (p := ⟨gb233, 0, none⟩) (Kd.R_types HO_4.out BK233.out (by decide)) (fun _ hk => hk.2) (.string ((rd_T31 l0_2 x40_2).f0))) (fun _ hk => hk.2) (.slice A232_1 ((rd_T31 l0_2 x40_2).f1).length c232_1)) (fun _ hk => hk.2) (.slice A232_2 ((rd_T31 l0_2 x40_2).f2).length c232_2)) (fun _ h_ => h_.1))) (Kd.R_base ho0) hb); replace BK221 := Aside0.mk (blk_below (g := gb221) (o := .cells #[.string a0_0, .slice A0_1 l0_1.length c0_1, .slice (some ad232) l0_2.length c0_2] 31 (0, 0)) (by (with_reducible repeat (first | refine blk_drewN ?_ _ | refine blk_drew ?_ | refine blk_alloc ?_ _)); refine blk_far ?_ NB221_233.out _; (with_reducible repeat (first | refine blk_drewN ?_ _ | refine blk_drew ?_ | refine blk_alloc ?_ _)); refine blk_far ?_ NB221_233.out _; (with_reducible repeat (first | refine blk_drewN ?_ _ | refine blk_drew ?_ | refine blk_alloc ?_ _)); refine blk_far ?_ NB221_233.out _; (with_reducible repeat (first | refine blk_drewN ?_ _ | refine blk_drew ?_ | refine blk_alloc ?_ _)); exact BK221.out) hb); replace BK233 := Aside0.mk (blk_below (g := gb233) (o := .cells #[.string ((rd_T31 l0_2 x40_2).f0), .slice A232_1 ((rd_T31 l0_2 x40_2).f1).length c232_1, .slice A232_2 ((rd_T31 l0_2 x40_2).f2).length c232_2] 31 (0, 0)) (by (with_reducible repeat (first | refine blk_drewN ?_ _ | refine blk_drew ?_ | refine blk_alloc ?_ _)); refine blk_put (cs := #[.string ((rd_T31 l0_2 x40_2).f0), .slice A232_1 ((rd_T31 l0_2 x40_2).f1).length c232_1, .slice none 0 0]) ?_ 2 _ rfl; (with_reducible repeat (first | refine blk_drewN ?_ _ | refine blk_drew ?_ | refine blk_alloc ?_ _)); refine blk_put (cs := #[.string ((rd_T31 l0_2 x40_2).f0), .slice none 0 0, .slice none 0 0]) ?_ 1 _ rfl; (with_reducible repeat (first | refine blk_drewN ?_ _ | refine blk_drew ?_ | refine blk_alloc ?_ _)); refine blk_put (cs := #[.string (⟨#[]⟩ : ByteArray), .slice none 0 0, .slice none 0 0]) ?_ 0 _ rfl; (with_reducible repeat (first | refine blk_drewN ?_ _ | refine blk_drew ?_ | refine blk_alloc ?_ _)); exact BK233.out) hb); replace HB := zw hb; (try clear hb); (try clear ho0)))
         go_ret2; exact ⟨_, zE, by first | exact Kd.R_nil _ _ _ _ _ | exact Kd.N_nil _ _ _ _ _ | exact Kd.V_nil _ _ _ _ _ | exact Kd.Q_nil _ _ _ _ _ | exact Kd.S_nil _ _ _ _ _, zB⟩
       ·replace H := zJ H; obtain ⟨c40, H⟩ := H; have c40b0 := eq_true c40; have c40b1 : decide (4 + a0_0.size ≤ 9223372036854775807) = true := decide_eq_true c40
        try have c40b2 : (9223372036854775807 < 4 + a0_0.size) = False := eq_false (Nat.not_lt.2 c40)
        replace H := zJ H; obtain ⟨c41, H⟩ := H; have LMc41 := Aside0.mk c41; clear c41; obtain ⟨y241, hy241⟩ : ∃ y_ : List ByteArray, y_ = (x4_2 ++ [(⟨#[69, 78, 68, 58]⟩ : ByteArray) ++ a0_0]) := ⟨_, rfl⟩; replace H : (some (y241, 0)) = some (r1, r2) := by first | (rw [hy241]; with_reducible exact H) | (have H2_ := (Option.bind_some _ _).symm.trans H; rw [hy241]; with_reducible exact H2_) | (have H2_ := (Option.bind_some _ _).symm.trans H; with_reducible exact H2_) | with_reducible exact H | (rw [hy241]; exact H) | exact H
        have Ny241 := Aside0.mk hy241; clear hy241; simp only [Option.some.injEq, Prod.mk.injEq] at H; obtain ⟨rfl, rfl⟩ := H; have hcz42_0 := zc0 BK221; have hcz42_1 := zc1 BK221; have hcz42_2 := zc2 BK221; have hfz42_0 := zf BK221 0; have hfz42_1 := zf BK221 1; have hfz42_2 := zf BK221 2
        go_wp2_with (first | ((with_reducible refine gate_builtin (b := .append) (xs := #[.tmp 56, .tmp 60]) rfl ?_); at_builtin; refine Kd.R_append Kd.string (w0 := w) w.heap.size rfl (.tmp 56) (.tmp 60) 54 9 (.string ⟨#[]⟩) 16 rfl Tryz.underlying54 info9 rfl (by decide) (by omega) u4 x4_2 ((⟨#[69, 78, 68, 58]⟩ : ByteArray) ++ a0_0) [.string ((⟨#[69, 78, 68, 58]⟩ : ByteArray) ++ a0_0)] (fun _ => True) (fun _ => False) rfl rfl ?aP (fun _ hk => hk.elim) ?aF ?aO ?aB ?aS ?aL ?_; (case aP => exact rfl); (case aB => exact zB); (case aF => exact (fun _ _ => trivial)); (case aO => exact (Kd.R_below HO_4.out zX)); (case aS => exact (below_size zB)); (case aL => have := LMc41.out; omega); intro v242 w43 ho hb hg hat; rw [← Ny241.out] at ho; have n0_ := Aside0.mk (blk_grown (g := gb221) (o := .cells #[.string a0_0, .slice A0_1 l0_1.length c0_1, .slice A0_2 l0_2.length c0_2] 31 (0, 0)) (blk_below BK221.out zX) hg (Kd.R_ne HO_4.out BK221.out (by decide))); have n1_ := Aside0.mk (hb); have n2_ := Aside0.mk (ho); clear BK221; clear HB; clear HO_4; have BK221 := n0_; have HB := n1_; have HO243 := n2_; clear n0_ n1_ n2_; clear ho hb hg hat))
        go_ret2; exact ⟨_, zE, by (with_reducible repeat (first | apply Kd.R_alloc | apply Kd.R_drewN | apply Kd.R_drew)); exact HO243.out, zB⟩
 ·exact zH H
end Go.Proofs.YtdojmdbaiddkgaaGreatDoor.Print
end
section
namespace Go.Proofs.YtdojmdbaiddkgaaGreatDoor.Print
open Go.RowKit Go.Proofs.YtdojmdbaiddkgaaGreatDoorW.PrintWords Go.Proofs.YtdojmdbaiddkgaaGreatDoorW.PrintLast
set_option linter.unusedVariables false
set_option linter.unusedSimpArgs false
mutual
def tree_formed.j0 : Nat → Int → Bool → ByteArray → List (S49) → List (S31) → Option (Bool)
 | 0, _, _, _, _, _ => none
 | k + 1, x1, x16, x210000, x210001, x210002 => if x16 = true then (some false) else (tree_formed.l0 k x1 x210001 (x210001.length : Int) 0 x210000 x210001 x210002)
def tree_formed.l0 : Nat → Int → List (S49) → Int → Int → ByteArray → List (S49) → List (S31) → Option (Bool)
 | 0, _, _, _, _, _, _, _ => none
 | k + 1, x1, x18, x19, x20, x210000, x210001, x210002 => if x20 < x19 then (if 0 ≤ x20 then (if x20 < (x18.length : Int) then ((line_Formed.f k ((rd_T49 x18 x20).f0) ((rd_T49 x18 x20).f1) ((rd_T49 x18 x20).f2)).bind fun t213 => (if t213 = true then ((tree_bound.f ((rd_T49 x18 x20).f0)).bind fun t214 => (if t214 = true then (some false) else (tree_formed.l0 k x1 x18 x19 (wrap64 (x20 + 1)) x210000 x210001 x210002))) else (some false))) else (none)) else (none)) else (tree_formed.l1 k x1 x210002 (x210002.length : Int) 0)
def tree_formed.l1 : Nat → Int → List (S31) → Int → Int → Option (Bool)
 | 0, _, _, _, _ => none
 | k + 1, x1, x34, x35, x36 => if x36 < x35 then (if 0 ≤ x36 then (if x36 < (x34.length : Int) then ((tree_formed.f k ((rd_T31 x34 x36).f0) ((rd_T31 x34 x36).f1) ((rd_T31 x34 x36).f2) (wrap64 (x1 - 1))).bind fun t217 => (if t217 = true then (tree_formed.l1 k x1 x34 x35 (wrap64 (x36 + 1))) else (some false))) else (none)) else (none)) else (some true)
def tree_formed.f : Nat → ByteArray → List (S49) → List (S31) → Int → Option (Bool)
 | 0, _, _, _, _ => none
 | k + 1, a0_0, l0_1, l0_2, a1 => if a1 = 0 then (tree_formed.j0 k a1 true a0_0 l0_1 l0_2) else ((line_Name.f k a0_0).bind fun t210 => (tree_formed.j0 k a1 (!t210) a0_0 l0_1 l0_2))
end
set_option maxHeartbeats 8000000 in
set_option maxRecDepth 100000 in
theorem tree_formed.calls (k : Nat) : ∀ (a0_0 : ByteArray) (A0_1 : Option Addr) (c0_1 : Nat) (l0_1 : List (S49)) (A0_2 : Option Addr) (c0_2 : Nat) (l0_2 : List (S31)) (a1 : Int) (r : Bool) (w : World) (hG : GG w) (hr0_1 : Kd.C k49 w A0_1 l0_1.length l0_1) (hc0_1 : l0_1.length ≤ c0_1) (hr0_2 : Kd.C k31 w A0_2 l0_2.length l0_2) (hc0_2 : l0_2.length ≤ c0_2) (h : tree_formed.f k a0_0 l0_1 l0_2 a1 = some r),
  Calls Tryz.prog 25 #[.agg #[.string a0_0, .slice A0_1 l0_1.length c0_1, .slice A0_2 l0_2.length c0_2], .int .i64 a1] w fun e w' => e = .returned (.bool r) ∧ Below w.heap.size w w' := by
 induction k using Nat.strongRecOn with
 | _ k ih =>
 intro a0_0 A0_1 c0_1 l0_1 A0_2 c0_2 l0_2 a1 r w hG hr0_1 hc0_1 hr0_2 hc0_2 h
 cases k with
 | zero => exact absurd h (by simp [tree_formed.f])
 | succ k =>
 simp only [tree_formed.f] at h; have hu31 := Tryz.underlying31; have hu49 := Tryz.underlying49; have HR0_1 := Aside0.mk hr0_1; have HC0_1 := Aside0.mk hc0_1; clear hr0_1 hc0_1; have HR0_2 := Aside0.mk hr0_2; have HC0_2 := Aside0.mk hc0_2; clear hr0_2 hc0_2; have HB := Aside0.mk (Below.refl w.heap.size w); have H : (if a1 = 0 then (tree_formed.j0 k a1 true a0_0 l0_1 l0_2) else ((line_Name.f k a0_0).bind fun t210 => (tree_formed.j0 k a1 (!t210) a0_0 l0_1 l0_2))) = some r := h; clear h; have HC3 := Aside0.mk H; clear H
 go_enter Tryz.func25, Tryz.ntmps25
 go_upto_region 1 with (first | ((with_reducible refine gate_dst (N := 2) rfl ?_); refine zbox (N := 2) #[.string a0_0, .slice A0_1 l0_1.length c0_1, .slice A0_2 l0_2.length c0_2] 31 (fun gb209 hg w4 hbox hb => ?_); have n0_ := zw hb; have n1_ := Aside0.mk hbox; have n2_ := zg w hg; have n3_ := zg w hg; clear HB; have HB := n0_; have BK209 := n1_; have GW209 := n2_; have GE209 := n3_; clear n0_ n1_ n2_ n3_; clear hb hbox hg))
 (try simp only [Act.put, List.setIfInBounds_toArray, List.set_cons_zero, List.set_cons_succ])
 go_cut [16] (fun v16 wc => ∃ (kq : Nat) (x16_2 : Bool), v16 = .bool x16_2 ∧ Aside0 (tree_formed.j0 kq a1 x16_2 a0_0 l0_1 l0_2 = some r) ∧ Aside0 (kq ≤ k) ∧ Aside0 (wc.heap[gb209]? = some (.cells #[.string a0_0, (.slice A0_1 l0_1.length c0_1), (.slice A0_2 l0_2.length c0_2)] 31 (0, 0))) ∧ Aside0 (Below w.heap.size w wc))
 case first =>
  have H := HC3.out; clear HC3; replace H := zIe H; rcases H with ⟨-, c5b0, c5b1, H⟩ | ⟨c5, c5b0, c5b1, H⟩
  ·(first | rw [c5b0] | (simp only [i64_w, i32_w]; rw [c5b0]) | skip)
   have H' := Aside0.mk H; clear H; go_wp2
   go_meet
   case rel => exact ⟨_, (true), zS, H', ⟨by first | omega | exact Nat.le_refl _⟩, ⟨blk_below BK209.out zX⟩, ⟨zB⟩⟩
  ·(first | rw [c5b0] | (simp only [i64_w, i32_w]; rw [c5b0]) | skip)
   replace H := zO H; obtain ⟨t210, A6, H⟩ := H; have H' := Aside0.mk H; clear H; have hcz7_0 := zc0 BK209; have hcz7_1 := zc1 BK209; have hcz7_2 := zc2 BK209; have hfz7_0 := zf BK209 0; have hfz7_1 := zf BK209 1; have hfz7_2 := zf BK209 2
   go_wp2_with (first | (go_at_call 44; (with_reducible refine (line_Name.calls k a0_0 t210 _ zG A6.out).mono ?_); rintro e w' ⟨rfl, ⟨nd, rfl⟩⟩))
   go_meet
   case rel => exact ⟨_, (!t210), zS, H', ⟨by first | omega | exact Nat.le_refl _⟩, ⟨blk_below BK209.out zX⟩, ⟨zB⟩⟩
 case rest =>
  clear HC3; obtain ⟨kq, x16_2, rfl, HA, HJ2, BK209, HB⟩ := hcut
  cases kq with
  | zero => exact absurd HA.out (by simp [tree_formed.j0])
  | succ kj2 =>
   have H := HA.out; clear HA; simp only [tree_formed.j0] at H; replace H := zIb H; rcases H with ⟨rfl, H⟩ | ⟨rfl, H⟩
   ·obtain rfl := Option.some.inj H; go_wp2; go_ret; exact ⟨zE, zB⟩
   ·have H' := Aside0.mk H; clear H; have hcz9_0 := zc0 BK209; have hcz9_1 := zc1 BK209; have hcz9_2 := zc2 BK209; have hfz9_0 := zf BK209 0; have hfz9_1 := zf BK209 1; have hfz9_2 := zf BK209 2; go_wp2
    go_loopg [20] kj2 (fun kq v20 w' => ∃ (x20_2 : Int), v20 = .int .i64 x20_2 ∧ Aside0 (tree_formed.l0 kq a1 l0_1 (l0_1.length : Int) x20_2 a0_0 l0_1 l0_2 = some r) ∧ Aside0 (kq ≤ kj2) ∧ Aside0 (w'.heap[gb209]? = some (.cells #[.string a0_0, (.slice A0_1 l0_1.length c0_1), (.slice A0_2 l0_2.length c0_2)] 31 (0, 0))) ∧ Aside0 (Below w.heap.size w w'))
    case atStart => exact ⟨(0), zS, H', ⟨Nat.le_refl _⟩, ⟨blk_below BK209.out zX⟩, ⟨zB⟩⟩
    case round =>
     clear H'; clear hcz9_0 hcz9_1 hcz9_2 hfz9_0 hfz9_1 hfz9_2; obtain ⟨x20_2, rfl, HA, HK2, BK209, HB⟩ := hrel
     cases gk with
     | zero => exact absurd HA.out (by simp [tree_formed.l0])
     | succ k2 =>
      have H := HA.out; clear HA; simp only [tree_formed.l0] at H; replace H := zId H; rcases H with ⟨-, c10b0, H⟩ | ⟨-, c10b0, H⟩
      ·replace H := zJd H; obtain ⟨-, c11b0, H⟩ := H; replace H := zJd H; obtain ⟨-, c12b0, H⟩ := H; replace H := zO H; obtain ⟨t213, A13, H⟩ := H; replace H := zIb H; rcases H with ⟨rfl, H⟩ | ⟨rfl, H⟩
       ·replace H := zO H; obtain ⟨t214, A15, H⟩ := H; replace H := zIb H; rcases H with ⟨rfl, H⟩ | ⟨rfl, H⟩
        ·obtain rfl := Option.some.inj H; have p211 := zQ (0 ≤ (x20_2 : Int)); have q211 := zQ (x20_2 < (l0_1.length : Int)); obtain ⟨ad211, A211_1, c211_1, e211, hx211_0, hx211_1, hx211_2, hl211_1, hi211_1⟩ := at_T49 HR0_1.out x20_2 p211 q211
         cases e211
         replace hx211_0 := zx HB hx211_0; replace hx211_1 := zx HB hx211_1; replace hx211_2 := zx HB hx211_2; have HR211_1 := Aside0.mk hi211_1; have HC211_1 := Aside0.mk hl211_1; clear hi211_1 hl211_1; replace p211 := eq_true p211; replace q211 := eq_true q211
         go_wp2_with (first | ((with_reducible refine gate_dst (N := 6) rfl ?_); refine zbox (N := 6) #[.string (⟨#[]⟩ : ByteArray), .slice none 0 0, .string (⟨#[]⟩ : ByteArray)] 49 (fun gb212 hg w17 hbox hb => ?_); replace BK212 := Aside0.mk hbox; replace GW212 := zg w hg; replace GE212 := zg w hg; replace HB := zw hb; replace NB209_212 := zn BK209 hg; replace NB212_209 := zm BK209 hg; replace BK209 := zb BK209 hb; clear hb hbox hg; have hnb18 := NB212_209.out; have hnc18 := NB209_212.out; have hcz19_0 := zc0 BK212; have hcz19_1 := zc1 BK212; have hcz19_2 := zc2 BK212; have hfz19_0 := zf BK212 0; have hfz19_1 := zf BK212 1; have hfz19_2 := zf BK212 2) | ((with_reducible refine gate_callee (f := 45) rfl ?_); refine goesL_ (some 25) rfl rfl Tryz.func45 (by kernel_rfl) rfl #[.agg #[.string ((rd_T49 l0_1 x20_2).f0), .slice A211_1 ((rd_T49 l0_1 x20_2).f1).length c211_1, .string ((rd_T49 l0_1 x20_2).f2)]] rfl zA ?_; (with_reducible refine (line_Formed.calls k2 ((rd_T49 l0_1 x20_2).f0) _ _ ((rd_T49 l0_1 x20_2).f1) ((rd_T49 l0_1 x20_2).f2) true _ zG ?side1 ?side2 A13.out).mono ?_); (case side1 => exact Kd.C_below HR211_1.out zB); (case side2 => exact HC211_1.out); rintro e w20 ⟨rfl, hb⟩; refine ⟨_, rfl, ?_⟩; replace BK209 := Aside0.mk (blk_below (g := gb209) (o := .cells #[.string a0_0, .slice (some ad211) l0_1.length c0_1, .slice A0_2 l0_2.length c0_2] 31 (0, 0)) (by (with_reducible repeat (first | refine blk_drewN ?_ _ | refine blk_drew ?_ | refine blk_alloc ?_ _)); refine blk_far ?_ NB209_212.out _; (with_reducible repeat (first | refine blk_drewN ?_ _ | refine blk_drew ?_ | refine blk_alloc ?_ _)); refine blk_far ?_ NB209_212.out _; (with_reducible repeat (first | refine blk_drewN ?_ _ | refine blk_drew ?_ | refine blk_alloc ?_ _)); refine blk_far ?_ NB209_212.out _; (with_reducible repeat (first | refine blk_drewN ?_ _ | refine blk_drew ?_ | refine blk_alloc ?_ _)); exact BK209.out) hb); replace BK212 := Aside0.mk (blk_below (g := gb212) (o := .cells #[.string ((rd_T49 l0_1 x20_2).f0), .slice A211_1 ((rd_T49 l0_1 x20_2).f1).length c211_1, .string ((rd_T49 l0_1 x20_2).f2)] 49 (0, 0)) (by (with_reducible repeat (first | refine blk_drewN ?_ _ | refine blk_drew ?_ | refine blk_alloc ?_ _)); refine blk_put (cs := #[.string ((rd_T49 l0_1 x20_2).f0), .slice A211_1 ((rd_T49 l0_1 x20_2).f1).length c211_1, .string (⟨#[]⟩ : ByteArray)]) ?_ 2 _ rfl; (with_reducible repeat (first | refine blk_drewN ?_ _ | refine blk_drew ?_ | refine blk_alloc ?_ _)); refine blk_put (cs := #[.string ((rd_T49 l0_1 x20_2).f0), .slice none 0 0, .string (⟨#[]⟩ : ByteArray)]) ?_ 1 _ rfl; (with_reducible repeat (first | refine blk_drewN ?_ _ | refine blk_drew ?_ | refine blk_alloc ?_ _)); refine blk_put (cs := #[.string (⟨#[]⟩ : ByteArray), .slice none 0 0, .string (⟨#[]⟩ : ByteArray)]) ?_ 0 _ rfl; (with_reducible repeat (first | refine blk_drewN ?_ _ | refine blk_drew ?_ | refine blk_alloc ?_ _)); exact BK212.out) hb); replace HB := zw hb; (try clear hb); have hcz21_0 : w20.cell? ⟨gb212, 0, none⟩ = some (.string ((rd_T49 l0_1 x20_2).f0)) := (blk_cell BK212.out 0).trans rfl; have hcz21_1 : w20.cell? ⟨gb212, 1, none⟩ = some (.slice A211_1 ((rd_T49 l0_1 x20_2).f1).length c211_1) := (blk_cell BK212.out 1).trans rfl; have hcz21_2 : w20.cell? ⟨gb212, 2, none⟩ = some (.string ((rd_T49 l0_1 x20_2).f2)) := (blk_cell BK212.out 2).trans rfl; have hfz21_0 := zf BK212 0; have hfz21_1 := zf BK212 1; have hfz21_2 := zf BK212 2) | (go_at_call 46; (with_reducible refine (tree_bound.calls ((rd_T49 l0_1 x20_2).f0) true _ zG A15.out).mono ?_); rintro e w' ⟨rfl, ⟨nd, rfl⟩⟩))
         go_ret; exact ⟨zE, zB⟩
        ·have H' := Aside0.mk H; clear H; have p211 := zQ (0 ≤ (x20_2 : Int)); have q211 := zQ (x20_2 < (l0_1.length : Int)); obtain ⟨ad211, A211_1, c211_1, e211, hx211_0, hx211_1, hx211_2, hl211_1, hi211_1⟩ := at_T49 HR0_1.out x20_2 p211 q211
         cases e211
         replace hx211_0 := zx HB hx211_0; replace hx211_1 := zx HB hx211_1; replace hx211_2 := zx HB hx211_2; have HR211_1 := Aside0.mk hi211_1; have HC211_1 := Aside0.mk hl211_1; clear hi211_1 hl211_1; replace p211 := eq_true p211; replace q211 := eq_true q211
         go_wp2_with (first | ((with_reducible refine gate_dst (N := 6) rfl ?_); refine zbox (N := 6) #[.string (⟨#[]⟩ : ByteArray), .slice none 0 0, .string (⟨#[]⟩ : ByteArray)] 49 (fun gb212 hg w22 hbox hb => ?_); replace BK212 := Aside0.mk hbox; replace GW212 := zg w hg; replace GE212 := zg w hg; replace HB := zw hb; replace NB209_212 := zn BK209 hg; replace NB212_209 := zm BK209 hg; replace BK209 := zb BK209 hb; clear hb hbox hg; have hnb23 := NB212_209.out; have hnc23 := NB209_212.out; have hcz24_0 := zc0 BK212; have hcz24_1 := zc1 BK212; have hcz24_2 := zc2 BK212; have hfz24_0 := zf BK212 0; have hfz24_1 := zf BK212 1; have hfz24_2 := zf BK212 2) | ((with_reducible refine gate_callee (f := 45) rfl ?_); refine goesL_ (some 25) rfl rfl Tryz.func45 (by kernel_rfl) rfl #[.agg #[.string ((rd_T49 l0_1 x20_2).f0), .slice A211_1 ((rd_T49 l0_1 x20_2).f1).length c211_1, .string ((rd_T49 l0_1 x20_2).f2)]] rfl zA ?_; (with_reducible refine (line_Formed.calls k2 ((rd_T49 l0_1 x20_2).f0) _ _ ((rd_T49 l0_1 x20_2).f1) ((rd_T49 l0_1 x20_2).f2) true _ zG ?side1 ?side2 A13.out).mono ?_); (case side1 => exact Kd.C_below HR211_1.out zB); (case side2 => exact HC211_1.out); rintro e w25 ⟨rfl, hb⟩; refine ⟨_, rfl, ?_⟩; replace BK209 := Aside0.mk (blk_below (g := gb209) (o := .cells #[.string a0_0, .slice (some ad211) l0_1.length c0_1, .slice A0_2 l0_2.length c0_2] 31 (0, 0)) (by (with_reducible repeat (first | refine blk_drewN ?_ _ | refine blk_drew ?_ | refine blk_alloc ?_ _)); refine blk_far ?_ NB209_212.out _; (with_reducible repeat (first | refine blk_drewN ?_ _ | refine blk_drew ?_ | refine blk_alloc ?_ _)); refine blk_far ?_ NB209_212.out _; (with_reducible repeat (first | refine blk_drewN ?_ _ | refine blk_drew ?_ | refine blk_alloc ?_ _)); refine blk_far ?_ NB209_212.out _; (with_reducible repeat (first | refine blk_drewN ?_ _ | refine blk_drew ?_ | refine blk_alloc ?_ _)); exact BK209.out) hb); replace BK212 := Aside0.mk (blk_below (g := gb212) (o := .cells #[.string ((rd_T49 l0_1 x20_2).f0), .slice A211_1 ((rd_T49 l0_1 x20_2).f1).length c211_1, .string ((rd_T49 l0_1 x20_2).f2)] 49 (0, 0)) (by (with_reducible repeat (first | refine blk_drewN ?_ _ | refine blk_drew ?_ | refine blk_alloc ?_ _)); refine blk_put (cs := #[.string ((rd_T49 l0_1 x20_2).f0), .slice A211_1 ((rd_T49 l0_1 x20_2).f1).length c211_1, .string (⟨#[]⟩ : ByteArray)]) ?_ 2 _ rfl; (with_reducible repeat (first | refine blk_drewN ?_ _ | refine blk_drew ?_ | refine blk_alloc ?_ _)); refine blk_put (cs := #[.string ((rd_T49 l0_1 x20_2).f0), .slice none 0 0, .string (⟨#[]⟩ : ByteArray)]) ?_ 1 _ rfl; (with_reducible repeat (first | refine blk_drewN ?_ _ | refine blk_drew ?_ | refine blk_alloc ?_ _)); refine blk_put (cs := #[.string (⟨#[]⟩ : ByteArray), .slice none 0 0, .string (⟨#[]⟩ : ByteArray)]) ?_ 0 _ rfl; (with_reducible repeat (first | refine blk_drewN ?_ _ | refine blk_drew ?_ | refine blk_alloc ?_ _)); exact BK212.out) hb); replace HB := zw hb; (try clear hb); have hcz26_0 : w25.cell? ⟨gb212, 0, none⟩ = some (.string ((rd_T49 l0_1 x20_2).f0)) := (blk_cell BK212.out 0).trans rfl; have hcz26_1 : w25.cell? ⟨gb212, 1, none⟩ = some (.slice A211_1 ((rd_T49 l0_1 x20_2).f1).length c211_1) := (blk_cell BK212.out 1).trans rfl; have hcz26_2 : w25.cell? ⟨gb212, 2, none⟩ = some (.string ((rd_T49 l0_1 x20_2).f2)) := (blk_cell BK212.out 2).trans rfl; have hfz26_0 := zf BK212 0; have hfz26_1 := zf BK212 1; have hfz26_2 := zf BK212 2) | (go_at_call 46; (with_reducible refine (tree_bound.calls ((rd_T49 l0_1 x20_2).f0) false _ zG A15.out).mono ?_); rintro e w' ⟨rfl, ⟨nd, rfl⟩⟩))
         go_roundg k2
         case measure => have := HJ2.out; have := HK2.out; omega
         case rel => exact ⟨(wrap64 (x20_2 + 1)), zS, H', ⟨by have := HJ2.out; have := HK2.out; omega⟩, ⟨blk_below BK209.out zX⟩, ⟨zB⟩⟩
       ·obtain rfl := Option.some.inj H; have p211 := zQ (0 ≤ (x20_2 : Int)); have q211 := zQ (x20_2 < (l0_1.length : Int)); obtain ⟨ad211, A211_1, c211_1, e211, hx211_0, hx211_1, hx211_2, hl211_1, hi211_1⟩ := at_T49 HR0_1.out x20_2 p211 q211
        cases e211
        replace hx211_0 := zx HB hx211_0; replace hx211_1 := zx HB hx211_1; replace hx211_2 := zx HB hx211_2; have HR211_1 := Aside0.mk hi211_1; have HC211_1 := Aside0.mk hl211_1; clear hi211_1 hl211_1; replace p211 := eq_true p211; replace q211 := eq_true q211
        go_wp2_with (first | ((with_reducible refine gate_dst (N := 6) rfl ?_); refine zbox (N := 6) #[.string (⟨#[]⟩ : ByteArray), .slice none 0 0, .string (⟨#[]⟩ : ByteArray)] 49 (fun gb212 hg w27 hbox hb => ?_); replace BK212 := Aside0.mk hbox; replace GW212 := zg w hg; replace GE212 := zg w hg; replace HB := zw hb; replace NB209_212 := zn BK209 hg; replace NB212_209 := zm BK209 hg; replace BK209 := zb BK209 hb; clear hb hbox hg; have hnb28 := NB212_209.out; have hnc28 := NB209_212.out; have hcz29_0 := zc0 BK212; have hcz29_1 := zc1 BK212; have hcz29_2 := zc2 BK212; have hfz29_0 := zf BK212 0; have hfz29_1 := zf BK212 1; have hfz29_2 := zf BK212 2) | ((with_reducible refine gate_callee (f := 45) rfl ?_); refine goesL_ (some 25) rfl rfl Tryz.func45 (by kernel_rfl) rfl #[.agg #[.string ((rd_T49 l0_1 x20_2).f0), .slice A211_1 ((rd_T49 l0_1 x20_2).f1).length c211_1, .string ((rd_T49 l0_1 x20_2).f2)]] rfl zA ?_; (with_reducible refine (line_Formed.calls k2 ((rd_T49 l0_1 x20_2).f0) _ _ ((rd_T49 l0_1 x20_2).f1) ((rd_T49 l0_1 x20_2).f2) false _ zG ?side1 ?side2 A13.out).mono ?_); (case side1 => exact Kd.C_below HR211_1.out zB); (case side2 => exact HC211_1.out); rintro e w30 ⟨rfl, hb⟩; refine ⟨_, rfl, ?_⟩; replace BK209 := Aside0.mk (blk_below (g := gb209) (o := .cells #[.string a0_0, .slice (some ad211) l0_1.length c0_1, .slice A0_2 l0_2.length c0_2] 31 (0, 0)) (by (with_reducible repeat (first | refine blk_drewN ?_ _ | refine blk_drew ?_ | refine blk_alloc ?_ _)); refine blk_far ?_ NB209_212.out _; (with_reducible repeat (first | refine blk_drewN ?_ _ | refine blk_drew ?_ | refine blk_alloc ?_ _)); refine blk_far ?_ NB209_212.out _; (with_reducible repeat (first | refine blk_drewN ?_ _ | refine blk_drew ?_ | refine blk_alloc ?_ _)); refine blk_far ?_ NB209_212.out _; (with_reducible repeat (first | refine blk_drewN ?_ _ | refine blk_drew ?_ | refine blk_alloc ?_ _)); exact BK209.out) hb); replace BK212 := Aside0.mk (blk_below (g := gb212) (o := .cells #[.string ((rd_T49 l0_1 x20_2).f0), .slice A211_1 ((rd_T49 l0_1 x20_2).f1).length c211_1, .string ((rd_T49 l0_1 x20_2).f2)] 49 (0, 0)) (by (with_reducible repeat (first | refine blk_drewN ?_ _ | refine blk_drew ?_ | refine blk_alloc ?_ _)); refine blk_put (cs := #[.string ((rd_T49 l0_1 x20_2).f0), .slice A211_1 ((rd_T49 l0_1 x20_2).f1).length c211_1, .string (⟨#[]⟩ : ByteArray)]) ?_ 2 _ rfl; (with_reducible repeat (first | refine blk_drewN ?_ _ | refine blk_drew ?_ | refine blk_alloc ?_ _)); refine blk_put (cs := #[.string ((rd_T49 l0_1 x20_2).f0), .slice none 0 0, .string (⟨#[]⟩ : ByteArray)]) ?_ 1 _ rfl; (with_reducible repeat (first | refine blk_drewN ?_ _ | refine blk_drew ?_ | refine blk_alloc ?_ _)); refine blk_put (cs := #[.string (⟨#[]⟩ : ByteArray), .slice none 0 0, .string (⟨#[]⟩ : ByteArray)]) ?_ 0 _ rfl; (with_reducible repeat (first | refine blk_drewN ?_ _ | refine blk_drew ?_ | refine blk_alloc ?_ _)); exact BK212.out) hb); replace HB := zw hb; (try clear hb)))
        go_ret; exact ⟨zE, zB⟩
      ·have H' := Aside0.mk H; clear H; have hcz31_0 := zc0 BK209; have hcz31_1 := zc1 BK209; have hcz31_2 := zc2 BK209; have hfz31_0 := zf BK209 0; have hfz31_1 := zf BK209 1; have hfz31_2 := zf BK209 2; go_wp2
       go_loopg [36] k2 (fun kq v36 w' => ∃ (x36_3 : Int), v36 = .int .i64 x36_3 ∧ Aside0 (tree_formed.l1 kq a1 l0_2 (l0_2.length : Int) x36_3 = some r) ∧ Aside0 (kq ≤ k2) ∧ Aside0 (w'.heap[gb209]? = some (.cells #[.string a0_0, (.slice A0_1 l0_1.length c0_1), (.slice A0_2 l0_2.length c0_2)] 31 (0, 0))) ∧ Aside0 (Below w.heap.size w w'))
       case atStart => exact ⟨(0), zS, H', ⟨Nat.le_refl _⟩, ⟨blk_below BK209.out zX⟩, ⟨zB⟩⟩
       case round =>
        clear H'; clear c10b0 hcz31_0 hcz31_1 hcz31_2 hfz31_0 hfz31_1 hfz31_2; obtain ⟨x36_3, rfl, HA, HK3, BK209, HB⟩ := hrel
        cases gk with
        | zero => exact absurd HA.out (by simp [tree_formed.l1])
        | succ k3 =>
         have H := HA.out; clear HA; simp only [tree_formed.l1] at H; replace H := zId H; rcases H with ⟨-, c32b0, H⟩ | ⟨-, c32b0, H⟩
         ·replace H := zJd H; obtain ⟨-, c33b0, H⟩ := H; replace H := zJd H; obtain ⟨-, c34b0, H⟩ := H; replace H := zO H; obtain ⟨t217, A35, H⟩ := H; replace H := zIb H; rcases H with ⟨rfl, H⟩ | ⟨rfl, H⟩
          ·have H' := Aside0.mk H; clear H; have p215 := zQ (0 ≤ (x36_3 : Int)); have q215 := zQ (x36_3 < (l0_2.length : Int)); obtain ⟨ad215, A215_1, c215_1, A215_2, c215_2, e215, hx215_0, hx215_1, hx215_2, hl215_1, hi215_1, hl215_2, hi215_2⟩ := at_T31 HR0_2.out x36_3 p215 q215
           cases e215
           replace hx215_0 := zx HB hx215_0; replace hx215_1 := zx HB hx215_1; replace hx215_2 := zx HB hx215_2; have HR215_1 := Aside0.mk hi215_1; have HC215_1 := Aside0.mk hl215_1; clear hi215_1 hl215_1; have HR215_2 := Aside0.mk hi215_2; have HC215_2 := Aside0.mk hl215_2; clear hi215_2 hl215_2; replace p215 := eq_true p215; replace q215 := eq_true q215
           go_wp2_with (first | ((with_reducible refine gate_dst (N := 8) rfl ?_); refine zbox (N := 8) #[.string (⟨#[]⟩ : ByteArray), .slice none 0 0, .slice none 0 0] 31 (fun gb216 hg w37 hbox hb => ?_); replace BK216 := Aside0.mk hbox; replace GW216 := zg w hg; replace GE216 := zg w hg; replace HB := zw hb; replace NB209_216 := zn BK209 hg; replace NB216_209 := zm BK209 hg; replace BK209 := zb BK209 hb; clear hb hbox hg; have hnb38 := NB216_209.out; have hnc38 := NB209_216.out; have hcz39_0 := zc0 BK216; have hcz39_1 := zc1 BK216; have hcz39_2 := zc2 BK216; have hfz39_0 := zf BK216 0; have hfz39_1 := zf BK216 1; have hfz39_2 := zf BK216 2) | ((with_reducible refine gate_callee (f := 25) rfl ?_); refine goesL_ (some 43) rfl rfl Tryz.func25 (by kernel_rfl) rfl #[.agg #[.string ((rd_T31 l0_2 x36_3).f0), .slice A215_1 ((rd_T31 l0_2 x36_3).f1).length c215_1, .slice A215_2 ((rd_T31 l0_2 x36_3).f2).length c215_2], .int .i64 (wrap64 (a1 - 1))] rfl zA ?_; (with_reducible refine (ih k3 (by have := HJ2.out; have := HK2.out; have := HK3.out; omega) ((rd_T31 l0_2 x36_3).f0) _ _ ((rd_T31 l0_2 x36_3).f1) _ _ ((rd_T31 l0_2 x36_3).f2) (wrap64 (a1 - 1)) true _ zG ?side1 ?side2 ?side3 ?side4 A35.out).mono ?_); (case side1 => exact Kd.C_below HR215_1.out zB); (case side2 => exact HC215_1.out); (case side3 => exact Kd.C_below HR215_2.out zB); (case side4 => exact HC215_2.out); rintro e w40 ⟨rfl, hb⟩; refine ⟨_, rfl, ?_⟩; replace BK209 := Aside0.mk (blk_below (g := gb209) (o := .cells #[.string a0_0, .slice A0_1 l0_1.length c0_1, .slice (some ad215) l0_2.length c0_2] 31 (0, 0)) (by (with_reducible repeat (first | refine blk_drewN ?_ _ | refine blk_drew ?_ | refine blk_alloc ?_ _)); refine blk_far ?_ NB209_216.out _; (with_reducible repeat (first | refine blk_drewN ?_ _ | refine blk_drew ?_ | refine blk_alloc ?_ _)); refine blk_far ?_ NB209_216.out _; (with_reducible repeat (first | refine blk_drewN ?_ _ | refine blk_drew ?_ | refine blk_alloc ?_ _)); refine blk_far ?_ NB209_216.out _; (with_reducible repeat (first | refine blk_drewN ?_ _ | refine blk_drew ?_ | refine blk_alloc ?_ _)); exact BK209.out) hb); replace BK216 := Aside0.mk (blk_below (g := gb216) (o := .cells #[.string ((rd_T31 l0_2 x36_3).f0), .slice A215_1 ((rd_T31 l0_2 x36_3).f1).length c215_1, .slice A215_2 ((rd_T31 l0_2 x36_3).f2).length c215_2] 31 (0, 0)) (by (with_reducible repeat (first | refine blk_drewN ?_ _ | refine blk_drew ?_ | refine blk_alloc ?_ _)); refine blk_put (cs := #[.string ((rd_T31 l0_2 x36_3).f0), .slice A215_1 ((rd_T31 l0_2 x36_3).f1).length c215_1, .slice none 0 0]) ?_ 2 _ rfl; (with_reducible repeat (first | refine blk_drewN ?_ _ | refine blk_drew ?_ | refine blk_alloc ?_ _)); refine blk_put (cs := #[.string ((rd_T31 l0_2 x36_3).f0), .slice none 0 0, .slice none 0 0]) ?_ 1 _ rfl; (with_reducible repeat (first | refine blk_drewN ?_ _ | refine blk_drew ?_ | refine blk_alloc ?_ _)); refine blk_put (cs := #[.string (⟨#[]⟩ : ByteArray), .slice none 0 0, .slice none 0 0]) ?_ 0 _ rfl; (with_reducible repeat (first | refine blk_drewN ?_ _ | refine blk_drew ?_ | refine blk_alloc ?_ _)); exact BK216.out) hb); replace HB := zw hb; (try clear hb)))
           go_roundg k3
           case measure => have := HJ2.out; have := HK2.out; have := HK3.out; omega
           case rel => exact ⟨(wrap64 (x36_3 + 1)), zS, H', ⟨by have := HJ2.out; have := HK2.out; have := HK3.out; omega⟩, ⟨blk_below BK209.out zX⟩, ⟨zB⟩⟩
          ·obtain rfl := Option.some.inj H; have p215 := zQ (0 ≤ (x36_3 : Int)); have q215 := zQ (x36_3 < (l0_2.length : Int)); obtain ⟨ad215, A215_1, c215_1, A215_2, c215_2, e215, hx215_0, hx215_1, hx215_2, hl215_1, hi215_1, hl215_2, hi215_2⟩ := at_T31 HR0_2.out x36_3 p215 q215
           cases e215
           replace hx215_0 := zx HB hx215_0; replace hx215_1 := zx HB hx215_1; replace hx215_2 := zx HB hx215_2; have HR215_1 := Aside0.mk hi215_1; have HC215_1 := Aside0.mk hl215_1; clear hi215_1 hl215_1; have HR215_2 := Aside0.mk hi215_2; have HC215_2 := Aside0.mk hl215_2; clear hi215_2 hl215_2; replace p215 := eq_true p215; replace q215 := eq_true q215
           go_wp2_with (first | ((with_reducible refine gate_dst (N := 8) rfl ?_); refine zbox (N := 8) #[.string (⟨#[]⟩ : ByteArray), .slice none 0 0, .slice none 0 0] 31 (fun gb216 hg w41 hbox hb => ?_); replace BK216 := Aside0.mk hbox; replace GW216 := zg w hg; replace GE216 := zg w hg; replace HB := zw hb; replace NB209_216 := zn BK209 hg; replace NB216_209 := zm BK209 hg; replace BK209 := zb BK209 hb; clear hb hbox hg; have hnb42 := NB216_209.out; have hnc42 := NB209_216.out; have hcz43_0 := zc0 BK216; have hcz43_1 := zc1 BK216; have hcz43_2 := zc2 BK216; have hfz43_0 := zf BK216 0; have hfz43_1 := zf BK216 1; have hfz43_2 := zf BK216 2) | ((with_reducible refine gate_callee (f := 25) rfl ?_); refine goesL_ (some 43) rfl rfl Tryz.func25 (by kernel_rfl) rfl #[.agg #[.string ((rd_T31 l0_2 x36_3).f0), .slice A215_1 ((rd_T31 l0_2 x36_3).f1).length c215_1, .slice A215_2 ((rd_T31 l0_2 x36_3).f2).length c215_2], .int .i64 (wrap64 (a1 - 1))] rfl zA ?_; (with_reducible refine (ih k3 (by have := HJ2.out; have := HK2.out; have := HK3.out; omega) ((rd_T31 l0_2 x36_3).f0) _ _ ((rd_T31 l0_2 x36_3).f1) _ _ ((rd_T31 l0_2 x36_3).f2) (wrap64 (a1 - 1)) false _ zG ?side1 ?side2 ?side3 ?side4 A35.out).mono ?_); (case side1 => exact Kd.C_below HR215_1.out zB); (case side2 => exact HC215_1.out); (case side3 => exact Kd.C_below HR215_2.out zB); (case side4 => exact HC215_2.out); rintro e w44 ⟨rfl, hb⟩; refine ⟨_, rfl, ?_⟩; replace BK209 := Aside0.mk (blk_below (g := gb209) (o := .cells #[.string a0_0, .slice A0_1 l0_1.length c0_1, .slice (some ad215) l0_2.length c0_2] 31 (0, 0)) (by (with_reducible repeat (first | refine blk_drewN ?_ _ | refine blk_drew ?_ | refine blk_alloc ?_ _)); refine blk_far ?_ NB209_216.out _; (with_reducible repeat (first | refine blk_drewN ?_ _ | refine blk_drew ?_ | refine blk_alloc ?_ _)); refine blk_far ?_ NB209_216.out _; (with_reducible repeat (first | refine blk_drewN ?_ _ | refine blk_drew ?_ | refine blk_alloc ?_ _)); refine blk_far ?_ NB209_216.out _; (with_reducible repeat (first | refine blk_drewN ?_ _ | refine blk_drew ?_ | refine blk_alloc ?_ _)); exact BK209.out) hb); replace BK216 := Aside0.mk (blk_below (g := gb216) (o := .cells #[.string ((rd_T31 l0_2 x36_3).f0), .slice A215_1 ((rd_T31 l0_2 x36_3).f1).length c215_1, .slice A215_2 ((rd_T31 l0_2 x36_3).f2).length c215_2] 31 (0, 0)) (by (with_reducible repeat (first | refine blk_drewN ?_ _ | refine blk_drew ?_ | refine blk_alloc ?_ _)); refine blk_put (cs := #[.string ((rd_T31 l0_2 x36_3).f0), .slice A215_1 ((rd_T31 l0_2 x36_3).f1).length c215_1, .slice none 0 0]) ?_ 2 _ rfl; (with_reducible repeat (first | refine blk_drewN ?_ _ | refine blk_drew ?_ | refine blk_alloc ?_ _)); refine blk_put (cs := #[.string ((rd_T31 l0_2 x36_3).f0), .slice none 0 0, .slice none 0 0]) ?_ 1 _ rfl; (with_reducible repeat (first | refine blk_drewN ?_ _ | refine blk_drew ?_ | refine blk_alloc ?_ _)); refine blk_put (cs := #[.string (⟨#[]⟩ : ByteArray), .slice none 0 0, .slice none 0 0]) ?_ 0 _ rfl; (with_reducible repeat (first | refine blk_drewN ?_ _ | refine blk_drew ?_ | refine blk_alloc ?_ _)); exact BK216.out) hb); replace HB := zw hb; (try clear hb)))
           go_ret; exact ⟨zE, zB⟩
         ·obtain rfl := Option.some.inj H; go_wp2; go_ret; exact ⟨zE, zB⟩
def tree_Formed.f (k : Nat) (a0_0 : ByteArray) (l0_1 : List (S49)) (l0_2 : List (S31)) : Option (Bool) := (tree_formed.f k a0_0 l0_1 l0_2 4).bind fun t219 => (if t219 = true then ((tree_Count.f k a0_0 l0_1 l0_2).bind fun t220 => (some (decide (t220 ≤ 300)))) else (some false))
set_option maxHeartbeats 8000000 in
set_option maxRecDepth 100000 in
theorem tree_Formed.calls (k : Nat) (a0_0 : ByteArray) (A0_1 : Option Addr) (c0_1 : Nat) (l0_1 : List (S49)) (A0_2 : Option Addr) (c0_2 : Nat) (l0_2 : List (S31)) (r : Bool) (w : World) (hG : GG w) (hr0_1 : Kd.C k49 w A0_1 l0_1.length l0_1) (hc0_1 : l0_1.length ≤ c0_1) (hr0_2 : Kd.C k31 w A0_2 l0_2.length l0_2) (hc0_2 : l0_2.length ≤ c0_2) (h : tree_Formed.f k a0_0 l0_1 l0_2 = some r) :
  Calls Tryz.prog 11 #[.agg #[.string a0_0, .slice A0_1 l0_1.length c0_1, .slice A0_2 l0_2.length c0_2]] w fun e w' => e = .returned (.bool r) ∧ Below w.heap.size w w' := by
 have hu31 := Tryz.underlying31; have HR0_1 := Aside0.mk hr0_1; have HC0_1 := Aside0.mk hc0_1; clear hr0_1 hc0_1; have HR0_2 := Aside0.mk hr0_2; have HC0_2 := Aside0.mk hc0_2; clear hr0_2 hc0_2; have HB := Aside0.mk (Below.refl w.heap.size w); have H : ((tree_formed.f k a0_0 l0_1 l0_2 4).bind fun t219 => (if t219 = true then ((tree_Count.f k a0_0 l0_1 l0_2).bind fun t220 => (some (decide (t220 ≤ 300)))) else (some false))) = some r := h; clear h; replace H := zO H; obtain ⟨t219, A2, H⟩ := H; replace H := zIb H; rcases H with ⟨rfl, H⟩ | ⟨rfl, H⟩
 ·replace H := zO H; obtain ⟨t220, A4, H⟩ := H; obtain rfl := Option.some.inj H
  go_enter Tryz.func11, Tryz.ntmps11
  go_wp2_with (first | ((with_reducible refine gate_dst (N := 1) rfl ?_); refine zbox (N := 1) #[.string a0_0, .slice A0_1 l0_1.length c0_1, .slice A0_2 l0_2.length c0_2] 31 (fun gb218 hg w5 hbox hb => ?_); have n0_ := zw hb; have n1_ := Aside0.mk hbox; have n2_ := zg w hg; have n3_ := zg w hg; clear HB; have HB := n0_; have BK218 := n1_; have GW218 := n2_; have GE218 := n3_; clear n0_ n1_ n2_ n3_; clear hb hbox hg; have hcz6_0 := zc0 BK218; have hcz6_1 := zc1 BK218; have hcz6_2 := zc2 BK218; have hfz6_0 := zf BK218 0; have hfz6_1 := zf BK218 1; have hfz6_2 := zf BK218 2) | ((with_reducible refine gate_callee (f := 25) rfl ?_); refine goesL_ (some 4) rfl rfl Tryz.func25 (by kernel_rfl) rfl #[.agg #[.string a0_0, .slice A0_1 l0_1.length c0_1, .slice A0_2 l0_2.length c0_2], .int .i64 4] rfl zA ?_; (with_reducible refine (tree_formed.calls k a0_0 _ _ l0_1 _ _ l0_2 4 true _ zG ?side1 ?side2 ?side3 ?side4 A2.out).mono ?_); (case side1 => exact Kd.C_below (Kd.C_below HR0_1.out HB.out) zX); (case side2 => exact HC0_1.out); (case side3 => exact Kd.C_below (Kd.C_below HR0_2.out HB.out) zX); (case side4 => exact HC0_2.out); rintro e w7 ⟨rfl, hb⟩; refine ⟨_, rfl, ?_⟩; replace BK218 := zb BK218 hb; replace HB := zw hb; (try clear hb); have hcz8_0 := zc0 BK218; have hcz8_1 := zc1 BK218; have hcz8_2 := zc2 BK218; have hfz8_0 := zf BK218 0; have hfz8_1 := zf BK218 1; have hfz8_2 := zf BK218 2) | (go_at_call 13; (with_reducible refine (tree_Count.calls k a0_0 _ _ l0_1 _ _ l0_2 t220 _ zG ?side1 ?side2 ?side3 ?side4 A4.out).mono ?_); (case side1 => exact Kd.C_below (Kd.C_below HR0_1.out HB.out) zX); (case side2 => exact HC0_1.out); (case side3 => exact Kd.C_below (Kd.C_below HR0_2.out HB.out) zX); (case side4 => exact HC0_2.out); rintro e w9 ⟨rfl, hb⟩; replace BK218 := zb BK218 hb; replace HB := zw hb; (try clear hb)))
  go_ret; exact ⟨zE, zB⟩
 ·obtain rfl := Option.some.inj H
  go_enter Tryz.func11, Tryz.ntmps11
  go_wp2_with (first | ((with_reducible refine gate_dst (N := 1) rfl ?_); refine zbox (N := 1) #[.string a0_0, .slice A0_1 l0_1.length c0_1, .slice A0_2 l0_2.length c0_2] 31 (fun gb218 hg w10 hbox hb => ?_); have n0_ := zw hb; have n1_ := Aside0.mk hbox; have n2_ := zg w hg; have n3_ := zg w hg; clear HB; have HB := n0_; have BK218 := n1_; have GW218 := n2_; have GE218 := n3_; clear n0_ n1_ n2_ n3_; clear hb hbox hg; have hcz11_0 := zc0 BK218; have hcz11_1 := zc1 BK218; have hcz11_2 := zc2 BK218; have hfz11_0 := zf BK218 0; have hfz11_1 := zf BK218 1; have hfz11_2 := zf BK218 2) | ((with_reducible refine gate_callee (f := 25) rfl ?_); refine goesL_ (some 4) rfl rfl Tryz.func25 (by kernel_rfl) rfl #[.agg #[.string a0_0, .slice A0_1 l0_1.length c0_1, .slice A0_2 l0_2.length c0_2], .int .i64 4] rfl zA ?_; (with_reducible refine (tree_formed.calls k a0_0 _ _ l0_1 _ _ l0_2 4 false _ zG ?side1 ?side2 ?side3 ?side4 A2.out).mono ?_); (case side1 => exact Kd.C_below (Kd.C_below HR0_1.out HB.out) zX); (case side2 => exact HC0_1.out); (case side3 => exact Kd.C_below (Kd.C_below HR0_2.out HB.out) zX); (case side4 => exact HC0_2.out); rintro e w12 ⟨rfl, hb⟩; refine ⟨_, rfl, ?_⟩; replace BK218 := zb BK218 hb; replace HB := zw hb; (try clear hb)))
  go_ret; exact ⟨zE, zB⟩
end Go.Proofs.YtdojmdbaiddkgaaGreatDoor.Print
end
section
set_option linter.unusedVariables false
set_option linter.unusedSimpArgs false
namespace Go.Proofs.YtdojmdbaiddkgaaGreatDoor.Print
open Go.RowKit Go.Proofs.YtdojmdbaiddkgaaGreatDoorW.PrintWords Go.Proofs.YtdojmdbaiddkgaaGreatDoorW.PrintLast
/-- How many bytes of l go into room bytes, cut between code points. -/
def takeN : Nat → List UInt8 → Nat → Nat
  | 0, _, _ => 0
  | k + 1, l, room => if l = [] then 0 else if room < (Lib.decodeL l).2 then 0 else (Lib.decodeL l).2 + takeN k (l.drop (Lib.decodeL l).2) (room - (Lib.decodeL l).2)
/-- A line, folded. -/
def oneL : Nat → List UInt8 → Nat → List UInt8
  | 0, _, _ => []
  | k + 1, l, room => if l = [] then [] else
      l.take (takeN l.length l room) ++ [13, 10] ++ (if l.drop (takeN l.length l room) = [] then [] else [32]) ++ oneL k (l.drop (takeN l.length l room)) 74
theorem decGo (t : ByteArray) (h : t.size ≠ 0) : Lib.decodeGo t = Lib.decodeL t.data.toList := by
  unfold Lib.decodeGo
  rw [if_neg h]; rfl
theorem ext_list (s : ByteArray) (n : Nat) : (s.extract n s.size).data.toList = s.data.toList.drop n := by
  rw [ByteArray.data_extract, Array.toList_extract, List.extract_eq_take_drop]
  exact List.take_of_length_le (by rw [List.length_drop, Array.length_toList]; exact Nat.le_refl _)
theorem decGo_ext (s : ByteArray) (n : Nat) (h : n < s.size) : Lib.decodeGo (s.extract n s.size) = Lib.decodeL (s.data.toList.drop n) := by
  rw [decGo _ (by rw [ByteArray.size_extract]; omega), ext_list]
theorem dL_pos (l : List UInt8) : 1 ≤ (Lib.decodeL l).2 := Lib.decodeL_width l
theorem dL_le4 (l : List UInt8) (hne : l ≠ []) : (Lib.decodeL l).2 ≤ 4 := by
  have := Lib.decodeGo_le4 ⟨l.toArray⟩
  rw [decGo _ (by show l.toArray.size ≠ 0; rw [List.size_toArray]; exact fun h => hne (List.length_eq_zero_iff.1 h))] at this
  exact this
theorem takeN_fuel : ∀ (k m : Nat) (l : List UInt8) (r : Nat), l.length ≤ k → l.length ≤ m → takeN k l r = takeN m l r
  | 0, m, l, r, hk, hm => by
    have : l = [] := List.length_eq_zero_iff.1 (by omega)
    subst this
    cases m <;> simp [takeN]
  | k + 1, 0, l, r, hk, hm => by
    have : l = [] := List.length_eq_zero_iff.1 (by omega)
    subst this
    simp [takeN]
  | k + 1, m + 1, l, r, hk, hm => by
    unfold takeN
    have h1 := dL_pos l
    by_cases hne : l = []
    · rw [if_pos hne, if_pos hne]
    · have h2 : 0 < l.length := List.length_pos_iff.2 hne
      rw [takeN_fuel k m (l.drop (Lib.decodeL l).2) _ (by rw [List.length_drop]; omega) (by rw [List.length_drop]; omega)]
def takeT (l : List UInt8) (r : Nat) : Nat := takeN l.length l r
theorem takeT_nil (r : Nat) : takeT [] r = 0 := rfl
theorem takeT_step (l : List UInt8) (r : Nat) (hne : l ≠ []) : takeT l r = if r < (Lib.decodeL l).2 then 0 else (Lib.decodeL l).2 + takeT (l.drop (Lib.decodeL l).2) (r - (Lib.decodeL l).2) := by
  have h2 : 0 < l.length := List.length_pos_iff.2 hne
  have h1 := dL_pos l
  obtain ⟨k, hk⟩ : ∃ k, l.length = k + 1 := ⟨l.length - 1, by omega⟩
  unfold takeT
  rw [hk, takeN, if_neg hne, takeN_fuel k (l.drop (Lib.decodeL l).2).length _ _ (by rw [List.length_drop]; omega) (Nat.le_refl _)]
theorem takeT_le : ∀ (n : Nat) (l : List UInt8) (r : Nat), l.length ≤ n → takeT l r ≤ l.length ∧ takeT l r ≤ r
  | n, [], r, _ => by simp [takeT_nil]
  | 0, a :: t, r, h => by simp at h
  | n + 1, a :: t, r, h => by
    have hne : a :: t ≠ [] := by simp
    have h1 := dL_pos (a :: t)
    have h2 := Lib.decodeL_le (a :: t) hne
    rw [takeT_step _ _ hne]
    split
    · omega
    · have := takeT_le n ((a :: t).drop (Lib.decodeL (a :: t)).2) (r - (Lib.decodeL (a :: t)).2) (by rw [List.length_drop]; omega)
      rw [List.length_drop] at this
      omega
theorem takeT_pos (l : List UInt8) (r : Nat) (hne : l ≠ []) (hr : 4 ≤ r) : 1 ≤ takeT l r := by
  have h1 := dL_pos l
  have h2 := dL_le4 l hne
  rw [takeT_step _ _ hne, if_neg (by omega)]; omega
theorem dat_append (a b : ByteArray) : (a ++ b).data.toList = a.data.toList ++ b.data.toList := by
  rw [ByteArray.data_append, Array.toList_append]
def oneT (l : List UInt8) (r : Nat) : List UInt8 := oneL l.length l r
theorem oneL_fuel : ∀ (k m : Nat) (l : List UInt8) (r : Nat), 4 ≤ r → l.length ≤ k → l.length ≤ m → oneL k l r = oneL m l r
  | 0, m, l, r, hr, hk, hm => by
    have : l = [] := List.length_eq_zero_iff.1 (by omega)
    subst this
    cases m <;> simp [oneL]
  | k + 1, 0, l, r, hr, hk, hm => by
    have : l = [] := List.length_eq_zero_iff.1 (by omega)
    subst this
    simp [oneL]
  | k + 1, m + 1, l, r, hr, hk, hm => by
    unfold oneL
    by_cases hne : l = []
    · rw [if_pos hne, if_pos hne]
    · have h2 : 0 < l.length := List.length_pos_iff.2 hne
      have h1 : 1 ≤ takeN l.length l r := takeT_pos l r hne hr
      rw [if_neg hne, if_neg hne, oneL_fuel k m (l.drop (takeN l.length l r)) 74 (by omega) (by rw [List.length_drop]; omega) (by rw [List.length_drop]; omega)]
theorem oneT_nil (r : Nat) : oneT [] r = [] := rfl
theorem oneT_step (l : List UInt8) (r : Nat) (hne : l ≠ []) (hr : 4 ≤ r) : oneT l r = l.take (takeT l r) ++ [13, 10] ++ (if l.drop (takeT l r) = [] then [] else [32]) ++ oneT (l.drop (takeT l r)) 74 := by
  have h2 : 0 < l.length := List.length_pos_iff.2 hne
  have h1 := takeT_pos l r hne hr
  obtain ⟨k, hk⟩ : ∃ k, l.length = k + 1 := ⟨l.length - 1, by omega⟩
  unfold oneT
  rw [hk, oneL, if_neg hne]
  show l.take (takeT l r) ++ [13, 10] ++ (if l.drop (takeT l r) = [] then [] else [32]) ++ oneL k (l.drop (takeT l r)) 74 = _
  rw [oneL_fuel k (l.drop (takeT l r)).length _ 74 (by omega) (by rw [List.length_drop]; omega) (Nat.le_refl _)]
theorem oneT_len : ∀ (n : Nat) (l : List UInt8) (r : Nat), 4 ≤ r → l.length ≤ n → (oneT l r).length ≤ 4 * l.length
  | n, [], r, _, _ => by simp [oneT_nil]
  | 0, a :: t, r, _, h => by simp at h
  | n + 1, a :: t, r, hr, h => by
    have hne : a :: t ≠ [] := by simp
    have h1 := takeT_pos (a :: t) r hne hr
    have h2 := (takeT_le _ (a :: t) r (Nat.le_refl _)).1
    have ih := oneT_len n ((a :: t).drop (takeT (a :: t) r)) 74 (by omega) (by rw [List.length_drop]; omega)
    rw [oneT_step _ _ hne hr]
    rw [List.length_drop] at ih
    have h3 : (if (a :: t).drop (takeT (a :: t) r) = [] then ([] : List UInt8) else [32]).length ≤ 1 := by split <;> simp
    simp only [List.length_append, List.length_take, List.length_cons, List.length_nil] at *
    omega
theorem GG.belowB {B : Nat} {w w' : World} (h : GG w) (h2 : 2 ≤ B) (hb : Below B w w') : GG w' :=
  ⟨⟨fun c hc => (hb.cell (by show 0 < B; omega)).trans (h.u8.1 c hc), fun i hi => ⟨(hb.cell (by show 1 < B; omega)).trans (h.u8.2 i hi).1, (hb.cell (by show 1 < B; omega)).trans (h.u8.2 i hi).2⟩⟩⟩
theorem crlf_size2 (M : List UInt8) (t u : ByteArray) (h : M.length + 4 * t.size ≤ 1004000000) (hu : u.size = 2) : M.length + (t ++ u).size ≤ 140737488355328 := by
  rw [ByteArray.size_append, hu]; omega
set_option maxHeartbeats 4000000 in
set_option maxRecDepth 100000 in
theorem one_walk (B b : Nat) (L : List UInt8) (s : ByteArray) (w : World) (hG : GG w) (hH : Bld.Has B b L w) (hB2 : 2 ≤ B) (hBw : B ≤ w.heap.size) (hs : s.size ≤ 1000000) (hL : L.length ≤ 1000000000) :
    Calls Tryz.prog 40 #[.pointer (some ⟨b, 0, none⟩), .string s] w fun e w' => e = .returned (.tuple #[]) ∧ Bld.Has B b (L ++ oneT s.data.toList 75) w' ∧ Below B w w' := by
  go_enter Tryz.func40, Tryz.ntmps40
  go_wp2
  go_loopg [1, 4] s.size (fun g v1 v4 wr => ∃ (t : ByteArray) (room : Nat) (M : List UInt8), v1 = .string t ∧ v4 = .int .i64 room ∧ 4 ≤ room ∧ room ≤ 75 ∧ t.size ≤ s.size ∧ Aside0 (t.size ≤ g) ∧ Aside0 (M ++ oneT t.data.toList room = L ++ oneT s.data.toList 75) ∧ Aside0 (M.length + 4 * t.size ≤ 1004000000) ∧ Aside0 (Bld.Has B b M wr) ∧ Aside0 (Below B w wr))
  case atStart => exact ⟨s, 75, L, rfl, rfl, by omega, by omega, by omega, ⟨by omega⟩, ⟨rfl⟩, ⟨by omega⟩, ⟨hH⟩, ⟨Below.refl _ _⟩⟩
  case round =>
    obtain ⟨t, room, M, rfl, rfl, hr4, hr75, hts, HG, HE, HM, HH, HB⟩ := hrel
    by_cases ht : t.size = 0
    · have hd : decide (0 < t.size) = false := decide_eq_false (by omega)
      go_wp2
      go_end0
      have ht2 : t.data.toList = [] := by apply List.length_eq_zero_iff.1; rw [Array.length_toList]; exact ht
      have he := HE.out
      rw [ht2, oneT_nil, List.append_nil] at he
      exact ⟨rfl, he ▸ HH.out, HB.out⟩
    cases gk with
    | zero => have := HG.out; omega
    | succ g =>
    have hd : decide (0 < t.size) = true := decide_eq_true (by omega)
    go_wp2
    have hBr := HB.out.size
    obtain ⟨N, hN⟩ : ∃ N, takeT t.data.toList room = N := ⟨_, rfl⟩
    have hne : t.data.toList ≠ [] := fun e => ht (by have := congrArg List.length e; rw [Array.length_toList] at this; exact this)
    have hN1 := takeT_pos t.data.toList room hne hr4
    have hN2 := (takeT_le _ t.data.toList room (Nat.le_refl _)).1
    rw [Array.length_toList] at hN2
    rw [hN] at hN1 hN2
    have hN2' : N ≤ t.size := hN2
    clear hN2
    go_loopg [5] t.size (fun g v5 wr2 => ∃ n : Nat, v5 = .int .i64 n ∧ n ≤ t.size ∧ n ≤ room ∧ Aside0 (t.size ≤ n + g) ∧ Aside0 (n + takeT (t.data.toList.drop n) (room - n) = N) ∧ Aside0 (Bld.Has B b M wr2) ∧ Aside0 (Below B w wr2))
    case atStart => exact ⟨0, rfl, by omega, by omega, ⟨by omega⟩, ⟨by rw [List.drop_zero, Nat.zero_add, Nat.sub_zero]; exact hN⟩, HH, HB⟩
    case round =>
      obtain ⟨n, rfl, hnt, hnr, HI, HT, HH2, HB2⟩ := hrel
      by_cases hn : n = t.size
      · subst hn
        have hd2 : decide (t.size < t.size) = false := decide_eq_false (by omega)
        have hBw2 := HB2.out.size
        have HBB : Aside0 (B ≤ wr.heap.size) := ⟨by omega⟩
        clear hBw2
        go_wp2_with (go_at_call 63; refine (Bld.ws _ _ _ _ _ HH2.out (crlf_size2 _ _ _ HM.out rfl) HBB.out).mono ?_; rintro e w3 ⟨rfl, h1, h2, h3⟩)
        go_roundg g
        case measure => have := HG.out; omega
        case rel =>
          have hN3 : N = t.size := by have := HT.out; rw [List.drop_of_length_le (by rw [Array.length_toList]; exact Nat.le_refl _), takeT_nil] at this; omega
          refine ⟨ByteArray.empty, 74, M ++ (t.data.toList ++ [13, 10]), rfl, rfl, by omega, by omega, by show 0 ≤ _; omega, ⟨by show 0 ≤ _; omega⟩, ⟨?_⟩, ⟨?_⟩, ⟨?_⟩, ⟨HB2.out.trans h2⟩⟩
          · have he := HE.out
            rw [oneT_step _ _ hne hr4, hN, hN3, List.take_of_length_le (by rw [Array.length_toList]; exact Nat.le_refl _), List.drop_of_length_le (by rw [Array.length_toList]; exact Nat.le_refl _), if_pos rfl, oneT_nil, List.append_nil, List.append_nil] at he
            show _ ++ oneT [] 74 = _
            rw [oneT_nil, List.append_nil]; exact he
          · have := HM.out
            have e : t.data.toList.length = t.size := by rw [Array.length_toList]; rfl
            show _ + 4 * 0 ≤ _
            simp only [List.length_append, List.length_cons, List.length_nil, e]; omega
          · rw [dat_append] at h1; exact h1
      · have hlt : n < t.size := by omega
        have hd2 : decide (n < t.size) = true := decide_eq_true hlt
        have hK0 := decGo_ext t n hlt
        have hk1 := dL_pos (t.data.toList.drop n)
        have hne2 : t.data.toList.drop n ≠ [] := by
          intro e; have := congrArg List.length e; rw [List.length_drop, Array.length_toList] at this; have e2 : t.data.size = t.size := rfl; simp only [List.length_nil] at this; omega
        have hk2 := Lib.decodeL_le (t.data.toList.drop n) hne2
        have hk4 := dL_le4 (t.data.toList.drop n) hne2
        have HS := Aside0.mk (takeT_step (t.data.toList.drop n) (room - n) hne2)
        have e9 : (t.data.toList.drop n).length = t.size - n := by rw [List.length_drop, Array.length_toList]; rfl
        rw [e9] at hk2
        clear e9
        obtain ⟨r, k, hK⟩ : ∃ r k, Lib.decodeL (t.data.toList.drop n) = (r, k) := ⟨_, _, rfl⟩
        rw [hK] at hK0 hk1 hk2 hk4
        rw [hK] at HS
        simp only at hk1 hk2 hk4 HS
        have HK := Aside0.mk hK0
        clear hK0 hK hne hne2
        have hGw := hG.belowB hB2 HB2.out
        by_cases hbk : room < n + k
        · have hd3 : decide ((room : Int) < (n : Int) + (k : Int)) = true := decide_eq_true (by omega)
          have hnN : N = n := by have h1 := HT.out; rw [HS.out, if_pos (by omega)] at h1; omega
          have hBw2 := HB2.out.size
          have HBB : Aside0 (B ≤ wr.heap.size) := ⟨by omega⟩
          have hxs : (t.extract 0 n).size = n := by rw [ByteArray.size_extract]; omega
          have HM3 : Aside0 (M.length + 4 * (t.extract 0 n).size ≤ 1004000000) := ⟨by rw [hxs]; have := HM.out; omega⟩
          go_wp2_with (go_at_call 67; refine (Tryz.utf8_DecodeRuneInString _ _ hGw.u8).mono ?_; rintro e w3 ⟨rfl, hb3⟩; rw [HK.out])
          have hBw3 := hb3.size
          have HBB3 : Aside0 (B ≤ w3.heap.size) := ⟨by omega⟩
          have HH3 := HH2.out.below hb3
          go_at_call 63
          refine (Bld.ws _ _ _ _ _ HH3 (crlf_size2 _ _ _ HM3.out rfl) HBB3.out).mono ?_
          rintro e w4 ⟨rfl, h1, h2, h3⟩
          have hBw4 := h2.size
          have HBB4 : Aside0 (B ≤ w4.heap.size) := ⟨by omega⟩
          have HL4 : Aside0 ((M ++ (t.extract 0 n ++ ⟨#[13, 10]⟩ : ByteArray).data.toList).length + 1 ≤ 140737488355328) := ⟨by
            rw [List.length_append]
            have e1 : (t.extract 0 n ++ ⟨#[13, 10]⟩ : ByteArray).data.toList.length = n + 2 := by
              rw [Array.length_toList]
              show (t.extract 0 n ++ ⟨#[13, 10]⟩ : ByteArray).size = _
              rw [ByteArray.size_append, hxs]; rfl
            rw [e1]; have := HM.out; omega⟩
          have H1 := Aside0.mk h1
          have H2 := Aside0.mk h2
          have H3 := Aside0.mk hb3
          clear h1 h2 h3 hb3 HH3
          go_wp2_with (go_at_call 65; refine (Bld.wb _ _ _ _ 32 rfl _ H1.out HL4.out HBB4.out).mono ?_; rintro e w5 ⟨rfl, k1, k2, k3⟩)
          go_roundg g
          case measure => have := HG.out; omega
          case rel =>
            have e0 : (t.extract n t.size).size = t.size - n := by rw [ByteArray.size_extract]; omega
            have hB3 : Below B w w3 := HB2.out.trans (H3.out.mono (by have := HB2.out.size; omega))
            refine ⟨t.extract n t.size, 74, M ++ (t.data.toList.take n ++ [13, 10]) ++ [32], rfl, rfl, by omega, by omega, by omega, ⟨by have := HG.out; omega⟩, ⟨?_⟩, ⟨?_⟩, ⟨?_⟩, ⟨(hB3.trans H2.out).trans k2⟩⟩
            · have hne : t.data.toList ≠ [] := fun e => ht (by have := congrArg List.length e; rw [Array.length_toList] at this; exact this)
              have hne2 : t.data.toList.drop n ≠ [] := by
                intro e; have := congrArg List.length e; rw [List.length_drop, Array.length_toList] at this; have e2 : t.data.size = t.size := rfl; simp only [List.length_nil] at this; omega
              have he := HE.out
              rw [oneT_step _ _ hne hr4, hN, hnN, if_neg hne2] at he
              rw [ext_list, ← he]
              simp only [List.append_assoc]
            · have := HM.out
              have e : t.data.toList.length = t.size := by rw [Array.length_toList]; rfl
              rw [e0]
              simp only [List.length_append, List.length_cons, List.length_nil, List.length_take, e]; omega
            · rw [dat_append] at k1
              have e1 : (t.extract 0 n).data.toList = t.data.toList.take n := by
                rw [ByteArray.data_extract, Array.toList_extract, List.extract_eq_take_drop, List.drop_zero, Nat.sub_zero]
              rw [e1] at k1
              exact k1
        · have hd3 : decide ((room : Int) < (n : Int) + (k : Int)) = false := decide_eq_false (by omega)
          cases gk with
          | zero => exfalso; have := HI.out; omega
          | succ g2 =>
          go_wp2_with (go_at_call 67; refine (Tryz.utf8_DecodeRuneInString _ _ hGw.u8).mono ?_; rintro e w3 ⟨rfl, hb3⟩; rw [HK.out])
          go_roundg g2
          case measure => have := HI.out; omega
          case rel =>
            refine ⟨n + k, by go_num, by omega, by omega, ⟨by have := HI.out; omega⟩, ⟨?_⟩, ⟨HH2.out.below hb3⟩, ⟨HB2.out.trans (hb3.mono (by have := HB2.out.size; omega))⟩⟩
            have h1 := HT.out
            rw [HS.out, if_neg (by omega), List.drop_drop] at h1
            rw [show room - (n + k) = room - n - k by omega]
            omega
end Go.Proofs.YtdojmdbaiddkgaaGreatDoor.Print
end
section
set_option linter.unusedVariables false
set_option linter.unusedSimpArgs false
namespace Go.Proofs.YtdojmdbaiddkgaaGreatDoor.Print
open Go.RowKit Go.Proofs.YtdojmdbaiddkgaaGreatDoorW.PrintWords Go.Proofs.YtdojmdbaiddkgaaGreatDoorW.PrintLast
/-- A line that can't be folded. -/
def badF (s : ByteArray) : Bool := s.data.toList.isEmpty || s.data.toList.getD 0 0 == 32 || s.data.toList.getD 0 0 == 9 || Lib.containsAny s.data.toList [13, 10]
def foldR : List ByteArray → List UInt8 → ByteArray × Int
  | [], acc => if acc.length > 20000 then (⟨#[]⟩, 4) else (⟨acc.toArray⟩, 0)
  | s :: t, acc => if s.size > 2000 ∨ acc.length > 20000 then (⟨#[]⟩, 4) else foldR t (acc ++ oneT s.data.toList 75)
def foldA (l : List ByteArray) : ByteArray × Int := if l.any badF = true then (⟨#[]⟩, 5) else foldR l []
def fold_Fold.f (l0 : List ByteArray) : Option (ByteArray × Int) := if (∀ x ∈ l0, x.size < 4294967281) then some (foldA l0) else none
theorem GG.two {w : World} (h : GG w) : 2 ≤ w.heap.size := by
  have h1 := (h.u8.2 0 (by omega)).1
  rcases Nat.lt_or_ge 1 w.heap.size with h' | h'
  · exact h'
  · simp [World.cell?, Array.getElem?_eq_none h'] at h1
theorem goes_on (c : UInt8) : fold_goesOn.f c.toNat = some (c == 32 || c == 9) := by
  unfold fold_goesOn.f
  by_cases h : c = 32
  · subst h; rfl
  · have e1 : (c == 32) = false := beq_eq_false_iff_ne.2 h
    rw [if_neg (fun e => h (by apply UInt8.toNat_inj.1; have : c.toNat = 32 := by omega
                               rw [this]; rfl)), e1]
    by_cases h9 : c = 9
    · subst h9; rfl
    · have e2 : (c == 9) = false := beq_eq_false_iff_ne.2 h9
      have e3 : ((c.toNat : Int) == 9) = false := beq_eq_false_iff_ne.2 (fun e => h9 (by apply UInt8.toNat_inj.1; have : c.toNat = 9 := by omega
                                                                                         rw [this]; rfl))
      rw [e2, e3]; rfl
theorem any_take (l : List ByteArray) (k : Nat) (h : (l.take k).any badF = true) : l.any badF = true := by
  obtain ⟨x, hx, hb⟩ := List.any_eq_true.1 h
  exact List.any_eq_true.2 ⟨x, List.mem_of_mem_take hx, hb⟩
theorem foldA_bad (l : List ByteArray) (h : l.any badF = true) : foldA l = (⟨#[]⟩, 5) := by unfold foldA; rw [if_pos h]
set_option maxHeartbeats 1000000 in
set_option maxRecDepth 100000 in
theorem fold_walk (A0 : Option Addr) (c0 : Nat) (l0 : List ByteArray) (w : World) (hG : GG w) (hr0 : Kd.C Kd.string w A0 l0.length l0) (hc0 : l0.length ≤ c0) (hs : ∀ x ∈ l0, x.size < 4294967281) :
    Calls Tryz.prog 22 #[.slice A0 l0.length c0] w fun e w' => e = .returned (.tuple #[.string (foldA l0).1, .int .i64 (foldA l0).2]) ∧ Below w.heap.size w w' := by
  have HR := Aside0.mk hr0
  have HC := Aside0.mk hc0
  have HS := Aside0.mk hs
  clear hr0 hc0 hs
  go_enter Tryz.func22, Tryz.ntmps22
  go_wp2
  go_loopg [11] l0.length (fun g v11 wr => ∃ i : Nat, v11 = .int .i64 i ∧ i ≤ l0.length ∧ Aside0 (l0.length ≤ i + g) ∧ Aside0 ((l0.take i).any badF = false) ∧ Aside0 (Below w.heap.size w wr))
  case atStart => exact ⟨0, by go_num, by omega, ⟨by omega⟩, ⟨rfl⟩, ⟨Below.refl _ _⟩⟩
  case round =>
    obtain ⟨i, rfl, hi, HI, HA, HB⟩ := hrel
    by_cases hlt : i < l0.length
    · obtain ⟨ad, rfl, hcell⟩ := Kd.at_string (Kd.C_below HR.out HB.out) (i : Int) (by omega) (by omega)
      have hxm : rdOf ByteArray.empty l0 (i : Int) ∈ l0 := by
        unfold rdOf; rw [Int.toNat_natCast, List.getD_eq_getElem?_getD, List.getElem?_eq_getElem hlt]; exact List.getElem_mem hlt
      have hxs := HS.out _ hxm
      have HX : Aside0 ((l0.take (i + 1)).any badF = badF (rdOf ByteArray.empty l0 (i : Int))) := ⟨by
        have e : rdOf ByteArray.empty l0 (i : Int) = l0[i] := by unfold rdOf; rw [Int.toNat_natCast, List.getD_eq_getElem?_getD, List.getElem?_eq_getElem hlt]; rfl
        rw [e, List.take_succ_eq_append_getElem hlt, List.any_append, HA.out]; simp⟩
      rw [Int.toNat_natCast] at hcell
      clear hxm
      generalize rdOf ByteArray.empty l0 (i : Int) = x at *
      have hd : decide (i < l0.length) = true := decide_eq_true hlt
      by_cases hx : x.size = 0
      · have hx0 : x = ⟨#[]⟩ := by
          cases x with
          | mk d => congr 1; exact Array.eq_empty_of_size_eq_zero hx
        subst hx0
        have hA := foldA_bad l0 (any_take l0 (i + 1) (by rw [HX.out]; rfl))
        go_wp2
        go_ret2
        exact ⟨by rw [hA]; rfl, HB.out⟩
      · have hc0 : 0 < x.size := by omega
        obtain ⟨c, hc⟩ : ∃ c : UInt8, x[0] = c := ⟨_, rfl⟩
        have hd2 : (x == (⟨#[]⟩ : ByteArray)) = false := by
          show (x.data == #[]) = false
          exact beq_eq_false_iff_ne.2 (fun e => hx (by show x.data.size = 0; rw [e]; rfl))
        have hgo := goes_on c
        have hx0 : x.data.toList.getD 0 0 = c := by
          rw [← hc, List.getD_eq_getElem?_getD, List.getElem?_eq_getElem (by rw [Array.length_toList]; exact hc0)]; rfl
        have hxe : x.data.toList.isEmpty = false := by
          cases h : x.data.toList with
          | nil => exact absurd (by have := congrArg List.length h; rw [Array.length_toList] at this; exact this) hx
          | cons a t => rfl
        have hsz := HB.out.size
        have hxe2 : x.toList.isEmpty = false := by rw [Lib.toList_data]; exact hxe
        by_cases hg9 : (c == 32 || c == 9) = true
        · have hA := foldA_bad l0 (any_take l0 (i + 1) (by rw [HX.out]; unfold badF; rw [hx0, hxe, Bool.false_or, hg9, Bool.true_or]))
          rw [hg9] at hgo
          go_wp2_with (go_at_call 37; refine (fold_goesOn.calls _ _ _ (hG.below HB.out) hgo).mono ?_; rintro e w2 ⟨rfl, hd3⟩; have hb3 := hd3.below.mono hsz; clear hd3)
          go_ret2
          exact ⟨by rw [hA]; rfl, HB.out.trans hb3⟩
        · rw [Bool.not_eq_true] at hg9
          rw [hg9] at hgo
          have hca : strings_ContainsAny.f x ⟨#[13, 10]⟩ = some (Lib.containsAny x.data.toList [13, 10]) := by
            unfold strings_ContainsAny.f; rw [if_pos ⟨hxs, by decide, by decide, by decide⟩]
          have hGw := hG.below HB.out
          by_cases hc9 : Lib.containsAny x.data.toList [13, 10] = true
          · have hA := foldA_bad l0 (any_take l0 (i + 1) (by rw [HX.out]; unfold badF; rw [hc9, Bool.or_true]))
            rw [hc9] at hca
            go_wp2_with (go_at_call 37; refine (fold_goesOn.calls _ _ _ hGw hgo).mono ?_; rintro e w2 ⟨rfl, hd3⟩; have hb3 := hd3.below; clear hd3)
            go_at_call 38
            refine (strings_ContainsAny.calls _ _ _ _ (hGw.below hb3) hca).mono ?_
            rintro e w3 ⟨rfl, hb4⟩
            go_wp2
            go_ret2
            exact ⟨by rw [hA]; rfl, (HB.out.trans (hb3.mono hsz)).trans (hb4.mono (by have := hb3.size; omega))⟩
          · rw [Bool.not_eq_true] at hc9
            rw [hc9] at hca
            cases gk with
            | zero => exfalso; have := HI.out; omega
            | succ g2 =>
            go_wp2_with (go_at_call 37; refine (fold_goesOn.calls _ _ _ hGw hgo).mono ?_; rintro e w2 ⟨rfl, hd3⟩; have hb3 := hd3.below; clear hd3)
            go_at_call 38
            refine (strings_ContainsAny.calls _ _ _ _ (hGw.below hb3) hca).mono ?_
            rintro e w3 ⟨rfl, hb4⟩
            go_wp2
            go_roundg g2
            case measure => have := HI.out; omega
            case rel =>
              have hlen : l0.length ≤ 9223372036854775807 := HR.out.2.1
              refine ⟨i + 1, ?_, by omega, ⟨by have := HI.out; omega⟩, ⟨by rw [HX.out]; unfold badF; rw [hx0, hxe, hc9, Bool.false_or, hg9]; rfl⟩, ⟨(HB.out.trans (hb3.mono hsz)).trans (hb4.mono (by have := hb3.size; omega))⟩⟩
              first | (go_num; done) | (congr 1; unfold wrap64; omega)
    · have hd : decide (i < l0.length) = false := decide_eq_false hlt
      have hA0 : l0.any badF = false := by have := HA.out; rwa [List.take_of_length_le (by omega)] at this
      have hlen : l0.length ≤ 9223372036854775807 := HR.out.2.1
      have hsz := HB.out.size
      go_wp2
      go_loopg [29] l0.length (fun g v29 wr2 => ∃ (j : Nat) (acc : List UInt8), v29 = .int .i64 j ∧ j ≤ l0.length ∧ Aside0 (l0.length ≤ j + g) ∧ Aside0 (foldR (l0.drop j) acc = foldA l0) ∧ acc.length ≤ 28000 ∧ Aside0 (Bld.Has w.heap.size wr.heap.size acc wr2) ∧ Aside0 (Below w.heap.size w wr2))
      case atStart => exact ⟨0, [], by go_num, by omega, ⟨by omega⟩, ⟨by unfold foldA; rw [hA0]; rfl⟩, by simp, ⟨Bld.Has.new _ _ hsz⟩, ⟨HB.out.alloc hsz _⟩⟩
      case round =>
        obtain ⟨j, acc, rfl, hj, HJ, HF, hacc, HH, HB2⟩ := hrel
        have hsz2 := HB2.out.size
        by_cases hlt2 : j < l0.length
        · obtain ⟨ad, rfl, hcell⟩ := Kd.at_string (Kd.C_below HR.out HB2.out) (j : Int) (by omega) (by omega)
          have HX : Aside0 (l0.drop j = rdOf ByteArray.empty l0 (j : Int) :: l0.drop (j + 1)) := ⟨by
            have e : rdOf ByteArray.empty l0 (j : Int) = l0[j] := by unfold rdOf; rw [Int.toNat_natCast, List.getD_eq_getElem?_getD, List.getElem?_eq_getElem hlt2]; rfl
            rw [e]; exact List.drop_eq_getElem_cons hlt2⟩
          rw [Int.toNat_natCast] at hcell
          generalize rdOf ByteArray.empty l0 (j : Int) = x at *
          have hd4 : decide (j < l0.length) = true := decide_eq_true hlt2
          by_cases hx : x.size > 2000
          · have hd5 : decide (2000 < x.size) = true := decide_eq_true hx
            have hA : foldA l0 = (⟨#[]⟩, 4) := by rw [← HF.out, HX.out, foldR, if_pos (.inl hx)]
            go_wp2
            go_ret2
            exact ⟨by first | rfl | (rw [hA]; rfl), HB2.out⟩
          · have hd5 : decide (2000 < x.size) = false := decide_eq_false hx
            by_cases hac : acc.length > 20000
            · have hd6 : decide (20000 < acc.length) = true := decide_eq_true hac
              have hA : foldA l0 = (⟨#[]⟩, 4) := by rw [← HF.out, HX.out, foldR, if_pos (.inr hac)]
              go_wp2_with (go_at_call 39; refine (Bld.len _ _ _ _ HH.out).mono ?_; rintro e w2 ⟨rfl, hw2⟩; rw [hw2]; clear hw2)
              go_ret2
              exact ⟨by first | rfl | (rw [hA]; rfl), HB2.out⟩
            · have hd6 : decide (20000 < acc.length) = false := decide_eq_false hac
              go_wp2_with (go_at_call 39; refine (Bld.len _ _ _ _ HH.out).mono ?_; rintro e w2 ⟨rfl, hw2⟩; rw [hw2]; clear hw2)
              cases gk with
              | zero => exfalso; have := HJ.out; omega
              | succ g3 =>
              have hB2 : 2 ≤ w.heap.size := GG.two hG
              have hlen2 := oneT_len _ x.data.toList 75 (by omega) (Nat.le_refl _)
              have hGw := hG.below HB2.out
              first | go_at_call 40 | skip
              refine (one_walk w.heap.size _ acc x _ hGw HH.out hB2 hsz2 (by omega) (by omega)).mono ?_
              rintro e w3 ⟨rfl, h1, h2⟩
              go_wp2
              go_roundg g3
              case measure => have := HJ.out; omega
              case rel =>
                have hlen3 : l0.length ≤ 9223372036854775807 := HR.out.2.1
                have e7 : x.data.toList.length = x.size := by rw [Array.length_toList]; rfl
                refine ⟨j + 1, acc ++ oneT x.data.toList 75, ?_, by omega, ⟨by have := HJ.out; omega⟩, ⟨?_⟩, by rw [List.length_append]; omega, ⟨h1⟩, ⟨HB2.out.trans h2⟩⟩
                · first | (go_num; done) | (congr 1; unfold wrap64; omega)
                · rw [← HF.out, HX.out, foldR, if_neg (by omega)]
        · have hd4 : decide (j < l0.length) = false := decide_eq_false hlt2
          have hF2 : foldR [] acc = foldA l0 := by have := HF.out; rwa [List.drop_of_length_le (by omega)] at this
          by_cases hac : acc.length > 20000
          · have hd6 : decide (20000 < acc.length) = true := decide_eq_true hac
            have hA : foldA l0 = (⟨#[]⟩, 4) := by rw [← hF2, foldR, if_pos hac]
            go_wp2_with (go_at_call 39; refine (Bld.len _ _ _ _ HH.out).mono ?_; rintro e w2 ⟨rfl, hw2⟩; rw [hw2]; clear hw2)
            go_ret2
            exact ⟨by first | rfl | (rw [hA]; rfl), HB2.out⟩
          · have hd6 : decide (20000 < acc.length) = false := decide_eq_false hac
            have hA : foldA l0 = (⟨acc.toArray⟩, 0) := by rw [← hF2, foldR, if_neg hac]
            go_wp2_with (go_at_call 39; refine (Bld.len _ _ _ _ HH.out).mono ?_; rintro e w2 ⟨rfl, hw2⟩; rw [hw2]; clear hw2)
            first | go_at_call 41 | skip
            refine (Bld.str _ _ _ _ HH.out hsz2).mono ?_
            rintro e w3 ⟨rfl, h1, h2, h3⟩
            go_wp2
            go_ret2
            exact ⟨by first | rfl | (rw [hA]; rfl), HB2.out.trans h2⟩
theorem fold_Fold.calls (A0 : Option Addr) (c0 : Nat) (l0 : List ByteArray) (r1 : ByteArray) (r2 : Int) (w : World) (hG : GG w) (hr0 : Kd.C Kd.string w A0 l0.length l0) (hc0 : l0.length ≤ c0) (h : fold_Fold.f l0 = some (r1, r2)) :
    Calls Tryz.prog 22 #[.slice A0 l0.length c0] w fun e w' => e = .returned (.tuple #[.string r1, .int .i64 r2]) ∧ Below w.heap.size w w' := by
  unfold fold_Fold.f at h
  by_cases hs : ∀ x ∈ l0, x.size < 4294967281
  · rw [if_pos hs] at h
    have h2 := Option.some.inj h
    have := fold_walk A0 c0 l0 w hG hr0 hc0 hs
    rw [h2] at this
    exact this
  · rw [if_neg hs] at h; cases h
end Go.Proofs.YtdojmdbaiddkgaaGreatDoor.Print
end
section
namespace Go.Proofs.YtdojmdbaiddkgaaGreatDoor.Print
open Go.RowKit Go.Proofs.YtdojmdbaiddkgaaGreatDoorW.PrintWords Go.Proofs.YtdojmdbaiddkgaaGreatDoorW.PrintLast
set_option linter.unusedVariables false
set_option linter.unusedSimpArgs false
def tree_Print.f (k : Nat) (a0_0 : ByteArray) (l0_1 : List (S49)) (l0_2 : List (S31)) : Option (ByteArray × Int) := (tree_Formed.f k a0_0 l0_1 l0_2).bind fun t245 => (if t245 = true then ((tree_lines.f k a0_0 l0_1 l0_2).bind fun bt246 => (if bt246.2 = 0 then ((fold_Fold.f bt246.1).bind fun bt250 => (some (bt250.1, bt250.2))) else (some ((⟨#[]⟩ : ByteArray), bt246.2)))) else (some ((⟨#[]⟩ : ByteArray), 1)))
set_option maxHeartbeats 8000000 in
set_option maxRecDepth 100000 in
theorem tree_Print.calls (k : Nat) (a0_0 : ByteArray) (A0_1 : Option Addr) (c0_1 : Nat) (l0_1 : List (S49)) (A0_2 : Option Addr) (c0_2 : Nat) (l0_2 : List (S31)) (r1 : ByteArray) (r2 : Int) (w : World) (hG : GG w) (hr0_1 : Kd.C k49 w A0_1 l0_1.length l0_1) (hc0_1 : l0_1.length ≤ c0_1) (hr0_2 : Kd.C k31 w A0_2 l0_2.length l0_2) (hc0_2 : l0_2.length ≤ c0_2) (h : tree_Print.f k a0_0 l0_1 l0_2 = some (r1, r2)) :
  Calls Tryz.prog 9 #[.agg #[.string a0_0, .slice A0_1 l0_1.length c0_1, .slice A0_2 l0_2.length c0_2]] w fun e w' => e = .returned (.tuple #[.string r1, .int .i64 r2]) ∧ Below w.heap.size w w' := by
 have hu31 := Tryz.underlying31; have HR0_1 := Aside0.mk hr0_1; have HC0_1 := Aside0.mk hc0_1; clear hr0_1 hc0_1; have HR0_2 := Aside0.mk hr0_2; have HC0_2 := Aside0.mk hc0_2; clear hr0_2 hc0_2; have HB := Aside0.mk (Below.refl w.heap.size w); have H : ((tree_Formed.f k a0_0 l0_1 l0_2).bind fun t245 => (if t245 = true then ((tree_lines.f k a0_0 l0_1 l0_2).bind fun bt246 => (if bt246.2 = 0 then ((fold_Fold.f bt246.1).bind fun bt250 => (some (bt250.1, bt250.2))) else (some ((⟨#[]⟩ : ByteArray), bt246.2)))) else (some ((⟨#[]⟩ : ByteArray), 1)))) = some (r1, r2) := h; clear h; replace H := zO H; obtain ⟨t245, A2, H⟩ := H; replace H := zIb H; rcases H with ⟨rfl, H⟩ | ⟨rfl, H⟩
 ·replace H := Option.bind_eq_some_iff.mp H; obtain ⟨⟨t246, t249⟩, A40, H⟩ := H; replace H : (if t249 = 0 then ((fold_Fold.f t246).bind fun bt250 => (some (bt250.1, bt250.2))) else (some ((⟨#[]⟩ : ByteArray), t249))) = some (r1, r2) := H; have A4 := Aside0.mk A40; clear A40; replace H := zIe H; rcases H with ⟨-, c5b0, c5b1, H⟩ | ⟨c5, c5b0, c5b1, H⟩
  ·replace H := Option.bind_eq_some_iff.mp H; obtain ⟨⟨t250, t251⟩, A60, H⟩ := H; replace H : (some (t250, t251)) = some (r1, r2) := H; have A6 := Aside0.mk A60; clear A60; simp only [Option.some.injEq, Prod.mk.injEq] at H; obtain ⟨rfl, rfl⟩ := H
   go_enter Tryz.func9, Tryz.ntmps9
   go_wp2_with (first | ((with_reducible refine gate_dst (N := 1) rfl ?_); refine zbox (N := 1) #[.string a0_0, .slice A0_1 l0_1.length c0_1, .slice A0_2 l0_2.length c0_2] 31 (fun gb244 hg w7 hbox hb => ?_); have n0_ := zw hb; have n1_ := Aside0.mk hbox; have n2_ := zg w hg; have n3_ := zg w hg; clear HB; have HB := n0_; have BK244 := n1_; have GW244 := n2_; have GE244 := n3_; clear n0_ n1_ n2_ n3_; clear hb hbox hg; have hcz8_0 := zc0 BK244; have hcz8_1 := zc1 BK244; have hcz8_2 := zc2 BK244; have hfz8_0 := zf BK244 0; have hfz8_1 := zf BK244 1; have hfz8_2 := zf BK244 2) | ((with_reducible refine gate_callee (f := 11) rfl ?_); refine goesL_ (some 7) rfl rfl Tryz.func11 (by kernel_rfl) rfl #[.agg #[.string a0_0, .slice A0_1 l0_1.length c0_1, .slice A0_2 l0_2.length c0_2]] rfl zA ?_; (with_reducible refine (tree_Formed.calls k a0_0 _ _ l0_1 _ _ l0_2 true _ zG ?side1 ?side2 ?side3 ?side4 A2.out).mono ?_); (case side1 => exact Kd.C_below (Kd.C_below HR0_1.out HB.out) zX); (case side2 => exact HC0_1.out); (case side3 => exact Kd.C_below (Kd.C_below HR0_2.out HB.out) zX); (case side4 => exact HC0_2.out); rintro e w9 ⟨rfl, hb⟩; refine ⟨_, rfl, ?_⟩; replace BK244 := zb BK244 hb; replace HB := zw hb; (try clear hb); have hcz10_0 := zc0 BK244; have hcz10_1 := zc1 BK244; have hcz10_2 := zc2 BK244; have hfz10_0 := zf BK244 0; have hfz10_1 := zf BK244 1; have hfz10_2 := zf BK244 2) | ((with_reducible refine gate_callee (f := 21) rfl ?_); refine goesL_ (some 11) rfl rfl Tryz.func21 (by kernel_rfl) rfl #[.agg #[.string a0_0, .slice A0_1 l0_1.length c0_1, .slice A0_2 l0_2.length c0_2]] rfl zA ?_; (with_reducible refine (tree_lines.calls k a0_0 _ _ l0_1 _ _ l0_2 t246 t249 _ zG ?side1 ?side2 ?side3 ?side4 A4.out).mono ?_); (case side1 => exact Kd.C_below (Kd.C_below HR0_1.out HB.out) zX); (case side2 => exact HC0_1.out); (case side3 => exact Kd.C_below (Kd.C_below HR0_2.out HB.out) zX); (case side4 => exact HC0_2.out); rintro e w11 ⟨v247, rfl, ho0, hb⟩; refine ⟨_, rfl, ?_⟩; replace HO248 := Aside0.mk (Kd.R_lower ho0 (below_size zB)); replace BK244 := zb BK244 hb; replace HB := zw hb; (try clear hb); (try clear ho0); obtain ⟨Ao12, co12, eo12⟩ := Kd.R_slice HO248.out; subst eo12) | ((with_reducible refine gate_callee (f := 22) rfl ?_); refine goesL_ (some 18) rfl rfl Tryz.func22 (by kernel_rfl) rfl #[.slice Ao12 t246.length co12] rfl zA ?_; (with_reducible refine (fold_Fold.calls _ _ t246 t250 t251 _ zG ?side1 ?side2 A6.out).mono ?_); (case side1 => exact Kd.C_below (Kd.R_reads' HO248.out).2.2 zX); (case side2 => exact (Kd.R_reads' HO248.out).2.1); rintro e w13 ⟨rfl, hb⟩; refine ⟨_, rfl, ?_⟩; replace HO248 := Aside0.mk (Kd.R_below (Kd.R_below HO248.out zX) hb); replace BK244 := zb BK244 hb; replace HB := zw hb; (try clear hb)))
   go_ret2; exact ⟨zE, zB⟩
  ·simp only [Option.some.injEq, Prod.mk.injEq] at H; obtain ⟨rfl, rfl⟩ := H
   go_enter Tryz.func9, Tryz.ntmps9
   go_wp2_with (first | ((with_reducible refine gate_dst (N := 1) rfl ?_); refine zbox (N := 1) #[.string a0_0, .slice A0_1 l0_1.length c0_1, .slice A0_2 l0_2.length c0_2] 31 (fun gb244 hg w14 hbox hb => ?_); have n0_ := zw hb; have n1_ := Aside0.mk hbox; have n2_ := zg w hg; have n3_ := zg w hg; clear HB; have HB := n0_; have BK244 := n1_; have GW244 := n2_; have GE244 := n3_; clear n0_ n1_ n2_ n3_; clear hb hbox hg; have hcz15_0 := zc0 BK244; have hcz15_1 := zc1 BK244; have hcz15_2 := zc2 BK244; have hfz15_0 := zf BK244 0; have hfz15_1 := zf BK244 1; have hfz15_2 := zf BK244 2) | ((with_reducible refine gate_callee (f := 11) rfl ?_); refine goesL_ (some 7) rfl rfl Tryz.func11 (by kernel_rfl) rfl #[.agg #[.string a0_0, .slice A0_1 l0_1.length c0_1, .slice A0_2 l0_2.length c0_2]] rfl zA ?_; (with_reducible refine (tree_Formed.calls k a0_0 _ _ l0_1 _ _ l0_2 true _ zG ?side1 ?side2 ?side3 ?side4 A2.out).mono ?_); (case side1 => exact Kd.C_below (Kd.C_below HR0_1.out HB.out) zX); (case side2 => exact HC0_1.out); (case side3 => exact Kd.C_below (Kd.C_below HR0_2.out HB.out) zX); (case side4 => exact HC0_2.out); rintro e w16 ⟨rfl, hb⟩; refine ⟨_, rfl, ?_⟩; replace BK244 := zb BK244 hb; replace HB := zw hb; (try clear hb); have hcz17_0 := zc0 BK244; have hcz17_1 := zc1 BK244; have hcz17_2 := zc2 BK244; have hfz17_0 := zf BK244 0; have hfz17_1 := zf BK244 1; have hfz17_2 := zf BK244 2) | ((with_reducible refine gate_callee (f := 21) rfl ?_); refine goesL_ (some 11) rfl rfl Tryz.func21 (by kernel_rfl) rfl #[.agg #[.string a0_0, .slice A0_1 l0_1.length c0_1, .slice A0_2 l0_2.length c0_2]] rfl zA ?_; (with_reducible refine (tree_lines.calls k a0_0 _ _ l0_1 _ _ l0_2 t246 t249 _ zG ?side1 ?side2 ?side3 ?side4 A4.out).mono ?_); (case side1 => exact Kd.C_below (Kd.C_below HR0_1.out HB.out) zX); (case side2 => exact HC0_1.out); (case side3 => exact Kd.C_below (Kd.C_below HR0_2.out HB.out) zX); (case side4 => exact HC0_2.out); rintro e w18 ⟨v247, rfl, ho0, hb⟩; refine ⟨_, rfl, ?_⟩; replace HO248 := Aside0.mk (Kd.R_lower ho0 (below_size zB)); replace BK244 := zb BK244 hb; replace HB := zw hb; (try clear hb); (try clear ho0)))
   go_ret2; exact ⟨zE, zB⟩
 ·simp only [Option.some.injEq, Prod.mk.injEq] at H; obtain ⟨rfl, rfl⟩ := H
  go_enter Tryz.func9, Tryz.ntmps9
  go_wp2_with (first | ((with_reducible refine gate_dst (N := 1) rfl ?_); refine zbox (N := 1) #[.string a0_0, .slice A0_1 l0_1.length c0_1, .slice A0_2 l0_2.length c0_2] 31 (fun gb244 hg w19 hbox hb => ?_); have n0_ := zw hb; have n1_ := Aside0.mk hbox; have n2_ := zg w hg; have n3_ := zg w hg; clear HB; have HB := n0_; have BK244 := n1_; have GW244 := n2_; have GE244 := n3_; clear n0_ n1_ n2_ n3_; clear hb hbox hg; have hcz20_0 := zc0 BK244; have hcz20_1 := zc1 BK244; have hcz20_2 := zc2 BK244; have hfz20_0 := zf BK244 0; have hfz20_1 := zf BK244 1; have hfz20_2 := zf BK244 2) | ((with_reducible refine gate_callee (f := 11) rfl ?_); refine goesL_ (some 7) rfl rfl Tryz.func11 (by kernel_rfl) rfl #[.agg #[.string a0_0, .slice A0_1 l0_1.length c0_1, .slice A0_2 l0_2.length c0_2]] rfl zA ?_; (with_reducible refine (tree_Formed.calls k a0_0 _ _ l0_1 _ _ l0_2 false _ zG ?side1 ?side2 ?side3 ?side4 A2.out).mono ?_); (case side1 => exact Kd.C_below (Kd.C_below HR0_1.out HB.out) zX); (case side2 => exact HC0_1.out); (case side3 => exact Kd.C_below (Kd.C_below HR0_2.out HB.out) zX); (case side4 => exact HC0_2.out); rintro e w21 ⟨rfl, hb⟩; refine ⟨_, rfl, ?_⟩; replace BK244 := zb BK244 hb; replace HB := zw hb; (try clear hb)))
  go_ret2; exact ⟨zE, zB⟩
mutual
def trystref08_Count.l0 : Nat → Int → Int → Int → ByteArray → List (S53) → List (S25) → Option (Int)
 | 0, _, _, _, _, _, _ => none
 | k + 1, x3, x11, x12, x253000, x253001, x253002 => if x12 < x11 then (if 0 ≤ x12 then (if x12 < (x253002.length : Int) then ((trystref08_Count.f k ((rd_T25 x253002 x12).f0) ((rd_T25 x253002 x12).f1) ((rd_T25 x253002 x12).f2)).bind fun t254 => (trystref08_Count.l0 k (wrap64 (x3 + t254)) x11 (wrap64 (x12 + 1)) x253000 x253001 x253002)) else (none)) else (none)) else (some x3)
def trystref08_Count.f : Nat → ByteArray → List (S53) → List (S25) → Option (Int)
 | 0, _, _, _ => none
 | k + 1, a0_0, l0_1, l0_2 => trystref08_Count.l0 k (wrap64 (2 + (l0_1.length : Int))) (l0_2.length : Int) 0 a0_0 l0_1 l0_2
end
set_option maxHeartbeats 8000000 in
set_option maxRecDepth 100000 in
theorem trystref08_Count.calls (k : Nat) : ∀ (a0_0 : ByteArray) (A0_1 : Option Addr) (c0_1 : Nat) (l0_1 : List (S53)) (A0_2 : Option Addr) (c0_2 : Nat) (l0_2 : List (S25)) (r : Int) (w : World) (hG : GG w) (hr0_1 : Kd.C k53 w A0_1 l0_1.length l0_1) (hc0_1 : l0_1.length ≤ c0_1) (hr0_2 : Kd.C k25 w A0_2 l0_2.length l0_2) (hc0_2 : l0_2.length ≤ c0_2) (h : trystref08_Count.f k a0_0 l0_1 l0_2 = some r),
  Calls Tryz.prog 14 #[.agg #[.string a0_0, .slice A0_1 l0_1.length c0_1, .slice A0_2 l0_2.length c0_2]] w fun e w' => e = .returned (.int .i64 r) ∧ Below w.heap.size w w' := by
 induction k using Nat.strongRecOn with
 | _ k ih =>
 intro a0_0 A0_1 c0_1 l0_1 A0_2 c0_2 l0_2 r w hG hr0_1 hc0_1 hr0_2 hc0_2 h
 cases k with
 | zero => exact absurd h (by simp [trystref08_Count.f])
 | succ k =>
 simp only [trystref08_Count.f] at h; have hu25 := Tryz.underlying25; have HR0_1 := Aside0.mk hr0_1; have HC0_1 := Aside0.mk hc0_1; clear hr0_1 hc0_1; have HR0_2 := Aside0.mk hr0_2; have HC0_2 := Aside0.mk hc0_2; clear hr0_2 hc0_2; have HB := Aside0.mk (Below.refl w.heap.size w); have H : (trystref08_Count.l0 k (wrap64 (2 + (l0_1.length : Int))) (l0_2.length : Int) 0 a0_0 l0_1 l0_2) = some r := h; clear h; have H' := Aside0.mk H; clear H
 go_enter Tryz.func14, Tryz.ntmps14
 go_wp2_with (first | ((with_reducible refine gate_dst (N := 1) rfl ?_); refine zbox (N := 1) #[.string a0_0, .slice A0_1 l0_1.length c0_1, .slice A0_2 l0_2.length c0_2] 25 (fun gb252 hg w2 hbox hb => ?_); have n0_ := zw hb; have n1_ := Aside0.mk hbox; have n2_ := zg w hg; have n3_ := zg w hg; clear HB; have HB := n0_; have BK252 := n1_; have GW252 := n2_; have GE252 := n3_; clear n0_ n1_ n2_ n3_; clear hb hbox hg; have hcz3_0 := zc0 BK252; have hcz3_1 := zc1 BK252; have hcz3_2 := zc2 BK252; have hfz3_0 := zf BK252 0; have hfz3_1 := zf BK252 1; have hfz3_2 := zf BK252 2))
 go_loopg [3, 12] k (fun kq v3 v12 w' => ∃ (x3_1 : Int) (x12_1 : Int), v3 = .int .i64 x3_1 ∧ v12 = .int .i64 x12_1 ∧ Aside0 (trystref08_Count.l0 kq x3_1 (l0_2.length : Int) x12_1 a0_0 l0_1 l0_2 = some r) ∧ Aside0 (kq ≤ k) ∧ Aside0 (w'.heap[gb252]? = some (.cells #[.string a0_0, (.slice A0_1 l0_1.length c0_1), (.slice A0_2 l0_2.length c0_2)] 25 (0, 0))) ∧ Aside0 (Below w.heap.size w w'))
 case atStart => exact ⟨(wrap64 (2 + (l0_1.length : Int))), (0), zS, zS, H', ⟨Nat.le_refl _⟩, ⟨blk_below BK252.out zX⟩, ⟨zB⟩⟩
 case round =>
  clear H'; clear hcz3_0 hcz3_1 hcz3_2 hfz3_0 hfz3_1 hfz3_2; obtain ⟨x3_1, x12_1, rfl, rfl, HA, HK1, BK252, HB⟩ := hrel
  cases gk with
  | zero => exact absurd HA.out (by simp [trystref08_Count.l0])
  | succ k1 =>
   have H := HA.out; clear HA; simp only [trystref08_Count.l0] at H; replace H := zId H; rcases H with ⟨-, c4b0, H⟩ | ⟨-, c4b0, H⟩
   ·replace H := zJd H; obtain ⟨-, c5b0, H⟩ := H; replace H := zJd H; obtain ⟨-, c6b0, H⟩ := H; replace H := zO H; obtain ⟨t254, A7, H⟩ := H; have H' := Aside0.mk H; clear H; have hcz8_0 := zc0 BK252; have hcz8_1 := zc1 BK252; have hcz8_2 := zc2 BK252; have hfz8_0 := zf BK252 0; have hfz8_1 := zf BK252 1; have hfz8_2 := zf BK252 2; have p253 := zQ (0 ≤ (x12_1 : Int)); have q253 := zQ (x12_1 < (l0_2.length : Int)); obtain ⟨ad253, A253_1, c253_1, A253_2, c253_2, e253, hx253_0, hx253_1, hx253_2, hl253_1, hi253_1, hl253_2, hi253_2⟩ := at_T25 HR0_2.out x12_1 p253 q253
    cases e253
    replace hx253_0 := zx HB hx253_0; replace hx253_1 := zx HB hx253_1; replace hx253_2 := zx HB hx253_2; have HR253_1 := Aside0.mk hi253_1; have HC253_1 := Aside0.mk hl253_1; clear hi253_1 hl253_1; have HR253_2 := Aside0.mk hi253_2; have HC253_2 := Aside0.mk hl253_2; clear hi253_2 hl253_2; replace p253 := eq_true p253; replace q253 := eq_true q253
    go_wp2_with (first | ((with_reducible refine gate_callee (f := 14) rfl ?_); refine goesL_ (some 21) rfl rfl Tryz.func14 (by kernel_rfl) rfl #[.agg #[.string ((rd_T25 l0_2 x12_1).f0), .slice A253_1 ((rd_T25 l0_2 x12_1).f1).length c253_1, .slice A253_2 ((rd_T25 l0_2 x12_1).f2).length c253_2]] rfl zA ?_; (with_reducible refine (ih k1 (by have := HK1.out; omega) ((rd_T25 l0_2 x12_1).f0) _ _ ((rd_T25 l0_2 x12_1).f1) _ _ ((rd_T25 l0_2 x12_1).f2) t254 _ zG ?side1 ?side2 ?side3 ?side4 A7.out).mono ?_); (case side1 => exact Kd.C_below (Kd.C_below HR253_1.out HB.out) zX); (case side2 => exact HC253_1.out); (case side3 => exact Kd.C_below (Kd.C_below HR253_2.out HB.out) zX); (case side4 => exact HC253_2.out); rintro e w9 ⟨rfl, hb⟩; refine ⟨_, rfl, ?_⟩; replace BK252 := zb BK252 hb; replace HB := zw hb; (try clear hb)))
    go_roundg k1
    case measure => have := HK1.out; omega
    case rel => exact ⟨(wrap64 (x3_1 + t254)), (wrap64 (x12_1 + 1)), zS, zS, H', ⟨by have := HK1.out; omega⟩, ⟨blk_below BK252.out zX⟩, ⟨zB⟩⟩
   ·obtain rfl := Option.some.inj H; go_wp2; go_ret; exact ⟨zE, zB⟩
def trystref08_letter.f (a0 : Int) (a1 : Bool) : Option (Bool) := if a0 ≥ 65 then (if a0 ≤ 90 then (some true) else (if a0 ≥ 48 then (if a0 ≤ 57 then (some true) else (if a0 = 45 then (some true) else (if a1 = true then (if a0 ≥ 97 then (some (decide (a0 ≤ 122))) else (some false)) else (some false)))) else (if a0 = 45 then (some true) else (if a1 = true then (if a0 ≥ 97 then (some (decide (a0 ≤ 122))) else (some false)) else (some false))))) else (if a0 ≥ 48 then (if a0 ≤ 57 then (some true) else (if a0 = 45 then (some true) else (if a1 = true then (if a0 ≥ 97 then (some (decide (a0 ≤ 122))) else (some false)) else (some false)))) else (if a0 = 45 then (some true) else (if a1 = true then (if a0 ≥ 97 then (some (decide (a0 ≤ 122))) else (some false)) else (some false))))
set_option maxHeartbeats 8000000 in
set_option maxRecDepth 100000 in
theorem trystref08_letter.calls (a0 : Int) (a1 : Bool) (r : Bool) (w : World) (hG : GG w) (h : trystref08_letter.f a0 a1 = some r) :
  Calls Tryz.prog 73 #[.int .u8 a0, .bool a1] w fun e w' => e = .returned (.bool r) ∧ Drawn0 w w' := by
 have H : (if a0 ≥ 65 then (if a0 ≤ 90 then (some true) else (if a0 ≥ 48 then (if a0 ≤ 57 then (some true) else (if a0 = 45 then (some true) else (if a1 = true then (if a0 ≥ 97 then (some (decide (a0 ≤ 122))) else (some false)) else (some false)))) else (if a0 = 45 then (some true) else (if a1 = true then (if a0 ≥ 97 then (some (decide (a0 ≤ 122))) else (some false)) else (some false))))) else (if a0 ≥ 48 then (if a0 ≤ 57 then (some true) else (if a0 = 45 then (some true) else (if a1 = true then (if a0 ≥ 97 then (some (decide (a0 ≤ 122))) else (some false)) else (some false)))) else (if a0 = 45 then (some true) else (if a1 = true then (if a0 ≥ 97 then (some (decide (a0 ≤ 122))) else (some false)) else (some false))))) = some r := h; clear h; replace H := zI H; rcases H with ⟨c3, H⟩ | ⟨c3, H⟩
 ·have c3b0 : decide (65 ≤ a0) = true := decide_eq_true c3; clear c3; replace H := zId H; rcases H with ⟨-, c4b0, H⟩ | ⟨-, c4b0, H⟩
  ·obtain rfl := Option.some.inj H
   go_enter Tryz.func73, Tryz.ntmps73
   go_wp2; go_ret
   exact ⟨zS, zD⟩
  ·replace H := zI H; rcases H with ⟨c5, H⟩ | ⟨c5, H⟩
   ·have c5b0 : decide (48 ≤ a0) = true := decide_eq_true c5; clear c5; replace H := zId H; rcases H with ⟨-, c6b0, H⟩ | ⟨-, c6b0, H⟩
    ·obtain rfl := Option.some.inj H
     go_enter Tryz.func73, Tryz.ntmps73
     go_wp2; go_ret
     exact ⟨zS, zD⟩
    ·replace H := zIe H; rcases H with ⟨-, c7b0, c7b1, H⟩ | ⟨c7, c7b0, c7b1, H⟩
     ·obtain rfl := Option.some.inj H
      go_enter Tryz.func73, Tryz.ntmps73
      go_wp2; go_ret
      exact ⟨zS, zD⟩
     ·replace H := zIb H; rcases H with ⟨rfl, H⟩ | ⟨rfl, H⟩
      ·replace H := zI H; rcases H with ⟨c9, H⟩ | ⟨c9, H⟩
       ·have c9b0 : decide (97 ≤ a0) = true := decide_eq_true c9; clear c9; obtain rfl := Option.some.inj H
        go_enter Tryz.func73, Tryz.ntmps73
        go_wp2; go_ret
        exact ⟨zS, zD⟩
       ·have c9b0 : decide (97 ≤ a0) = false := decide_eq_false c9; clear c9; obtain rfl := Option.some.inj H
        go_enter Tryz.func73, Tryz.ntmps73
        go_wp2; go_ret
        exact ⟨zS, zD⟩
      ·obtain rfl := Option.some.inj H
       go_enter Tryz.func73, Tryz.ntmps73
       go_wp2; go_ret
       exact ⟨zS, zD⟩
   ·have c5b0 : decide (48 ≤ a0) = false := decide_eq_false c5; clear c5; replace H := zIe H; rcases H with ⟨-, c10b0, c10b1, H⟩ | ⟨c10, c10b0, c10b1, H⟩
    ·obtain rfl := Option.some.inj H
     go_enter Tryz.func73, Tryz.ntmps73
     go_wp2; go_ret
     exact ⟨zS, zD⟩
    ·replace H := zIb H; rcases H with ⟨rfl, H⟩ | ⟨rfl, H⟩
     ·replace H := zI H; rcases H with ⟨c12, H⟩ | ⟨c12, H⟩
      ·have c12b0 : decide (97 ≤ a0) = true := decide_eq_true c12; clear c12; obtain rfl := Option.some.inj H
       go_enter Tryz.func73, Tryz.ntmps73
       go_wp2; go_ret
       exact ⟨zS, zD⟩
      ·have c12b0 : decide (97 ≤ a0) = false := decide_eq_false c12; clear c12; obtain rfl := Option.some.inj H
       go_enter Tryz.func73, Tryz.ntmps73
       go_wp2; go_ret
       exact ⟨zS, zD⟩
     ·obtain rfl := Option.some.inj H
      go_enter Tryz.func73, Tryz.ntmps73
      go_wp2; go_ret
      exact ⟨zS, zD⟩
 ·have c3b0 : decide (65 ≤ a0) = false := decide_eq_false c3; clear c3; replace H := zI H; rcases H with ⟨c13, H⟩ | ⟨c13, H⟩
  ·have c13b0 : decide (48 ≤ a0) = true := decide_eq_true c13; clear c13; replace H := zId H; rcases H with ⟨-, c14b0, H⟩ | ⟨-, c14b0, H⟩
   ·obtain rfl := Option.some.inj H
    go_enter Tryz.func73, Tryz.ntmps73
    go_wp2; go_ret
    exact ⟨zS, zD⟩
   ·replace H := zIe H; rcases H with ⟨-, c15b0, c15b1, H⟩ | ⟨c15, c15b0, c15b1, H⟩
    ·obtain rfl := Option.some.inj H
     go_enter Tryz.func73, Tryz.ntmps73
     go_wp2; go_ret
     exact ⟨zS, zD⟩
    ·replace H := zIb H; rcases H with ⟨rfl, H⟩ | ⟨rfl, H⟩
     ·replace H := zI H; rcases H with ⟨c17, H⟩ | ⟨c17, H⟩
      ·have c17b0 : decide (97 ≤ a0) = true := decide_eq_true c17; clear c17; obtain rfl := Option.some.inj H
       go_enter Tryz.func73, Tryz.ntmps73
       go_wp2; go_ret
       exact ⟨zS, zD⟩
      ·have c17b0 : decide (97 ≤ a0) = false := decide_eq_false c17; clear c17; obtain rfl := Option.some.inj H
       go_enter Tryz.func73, Tryz.ntmps73
       go_wp2; go_ret
       exact ⟨zS, zD⟩
     ·obtain rfl := Option.some.inj H
      go_enter Tryz.func73, Tryz.ntmps73
      go_wp2; go_ret
      exact ⟨zS, zD⟩
  ·have c13b0 : decide (48 ≤ a0) = false := decide_eq_false c13; clear c13; replace H := zIe H; rcases H with ⟨-, c18b0, c18b1, H⟩ | ⟨c18, c18b0, c18b1, H⟩
   ·obtain rfl := Option.some.inj H
    go_enter Tryz.func73, Tryz.ntmps73
    go_wp2; go_ret
    exact ⟨zS, zD⟩
   ·replace H := zIb H; rcases H with ⟨rfl, H⟩ | ⟨rfl, H⟩
    ·replace H := zI H; rcases H with ⟨c20, H⟩ | ⟨c20, H⟩
     ·have c20b0 : decide (97 ≤ a0) = true := decide_eq_true c20; clear c20; obtain rfl := Option.some.inj H
      go_enter Tryz.func73, Tryz.ntmps73
      go_wp2; go_ret
      exact ⟨zS, zD⟩
     ·have c20b0 : decide (97 ≤ a0) = false := decide_eq_false c20; clear c20; obtain rfl := Option.some.inj H
      go_enter Tryz.func73, Tryz.ntmps73
      go_wp2; go_ret
      exact ⟨zS, zD⟩
    ·obtain rfl := Option.some.inj H
     go_enter Tryz.func73, Tryz.ntmps73
     go_wp2; go_ret
     exact ⟨zS, zD⟩
def trystref08_Name.l0 : Nat → ByteArray → Int → Int → Option (Bool)
 | 0, _, _, _ => none
 | k + 1, x0, x5, x6 => if x6 < x5 then (if 0 ≤ x6 then (if x6 < (x0.size : Int) then ((trystref08_letter.f (bt x0 x6) false).bind fun t255 => (if t255 = true then (trystref08_Name.l0 k x0 x5 (wrap64 (x6 + 1))) else (some false))) else (none)) else (none)) else (if (x0.size : Int) > 0 then (some (decide ((x0.size : Int) ≤ 60))) else (some false))
def trystref08_Name.f (k : Nat) (a0 : ByteArray) : Option (Bool) := trystref08_Name.l0 k a0 (a0.size : Int) 0
set_option maxHeartbeats 8000000 in
set_option maxRecDepth 100000 in
theorem trystref08_Name.calls (k : Nat) (a0 : ByteArray) (r : Bool) (w : World) (hG : GG w) (h : trystref08_Name.f k a0 = some r) :
  Calls Tryz.prog 47 #[.string a0] w fun e w' => e = .returned (.bool r) ∧ Drawn0 w w' := by
 have H : (trystref08_Name.l0 k a0 (a0.size : Int) 0) = some r := h; clear h; have H' := Aside0.mk H; clear H
 go_enter Tryz.func47, Tryz.ntmps47
 go_wp2
 go_loopg [6] k (fun kq v6 w' => ∃ (x6_1 : Int), v6 = .int .i64 x6_1 ∧ Aside0 (trystref08_Name.l0 kq a0 (a0.size : Int) x6_1 = some r) ∧ Aside0 (kq ≤ k) ∧ Drawn0 w w')
 case atStart => exact ⟨(0), zS, H', ⟨Nat.le_refl _⟩, zD⟩
 case round =>
  clear H'; obtain ⟨x6_1, rfl, HA, HK1, ⟨m1, rfl⟩⟩ := hrel
  cases gk with
  | zero => exact absurd HA.out (by simp [trystref08_Name.l0])
  | succ k1 =>
   have H := HA.out; clear HA; simp only [trystref08_Name.l0] at H; replace H := zId H; rcases H with ⟨-, c2b0, H⟩ | ⟨-, c2b0, H⟩
   ·replace H := zJd H; obtain ⟨-, c3b0, H⟩ := H; replace H := zJd H; obtain ⟨-, c4b0, H⟩ := H; replace H := zO H; obtain ⟨t255, A6, H⟩ := H; replace H := zIb H; rcases H with ⟨rfl, H⟩ | ⟨rfl, H⟩
    ·have H' := Aside0.mk H; clear H; have p5 := zP (0 ≤ (x6_1 : Int)); have q5 := zP (x6_1 < (a0.size : Int)); have hx5 := bt_at a0 x6_1
     go_wp2_with (first | ((with_reducible refine gate_callee (f := 73) rfl ?_); refine zq 12 Tryz.func73 #[.int .u8 (bt a0 x6_1), .bool false] (trystref08_letter.calls (bt a0 x6_1) false true _ zG2 A6.out) (fun nd => ?_)))
     go_roundg k1
     case measure => have := HK1.out; omega
     case rel => exact ⟨(wrap64 (x6_1 + 1)), zS, H', ⟨by have := HK1.out; omega⟩, zD⟩
    ·obtain rfl := Option.some.inj H; have p5 := zP (0 ≤ (x6_1 : Int)); have q5 := zP (x6_1 < (a0.size : Int)); have hx5 := bt_at a0 x6_1
     go_wp2_with (first | ((with_reducible refine gate_callee (f := 73) rfl ?_); refine zq 12 Tryz.func73 #[.int .u8 (bt a0 x6_1), .bool false] (trystref08_letter.calls (bt a0 x6_1) false false _ zG2 A6.out) (fun nd => ?_)))
     go_ret; exact ⟨zS, zD⟩
   ·replace H := zI H; rcases H with ⟨c8, H⟩ | ⟨c8, H⟩
    ·have c8b0 : decide (0 < (a0.size : Int)) = true := decide_eq_true c8; have c8b1 : decide (0 < a0.size) = true := decide_eq_true (by omega); clear c8; obtain rfl := Option.some.inj H; go_wp2; go_ret; exact ⟨zS, zD⟩
    ·have c8b0 : decide (0 < (a0.size : Int)) = false := decide_eq_false c8; have c8b1 : decide (0 < a0.size) = false := decide_eq_false (by omega); clear c8; obtain rfl := Option.some.inj H; go_wp2; go_ret; exact ⟨zS, zD⟩
end Go.Proofs.YtdojmdbaiddkgaaGreatDoor.Print
end
section
namespace Go.Proofs.YtdojmdbaiddkgaaGreatDoor.Print
open Go.RowKit Go.Proofs.YtdojmdbaiddkgaaGreatDoorW.PrintWords Go.Proofs.YtdojmdbaiddkgaaGreatDoorW.PrintLast
set_option linter.unusedVariables false
set_option linter.unusedSimpArgs false
mutual
def trystref08_Formed.j0 : Nat → Bool → ByteArray → List (S76) → ByteArray → Option (Bool)
 | 0, _, _, _, _ => none
 | k + 1, x22, x259000, x259001, x259002 => if x22 = true then (some false) else (trystref08_Formed.l0 k (x259001.length : Int) 0 x259000 x259001 x259002)
def trystref08_Formed.l0 : Nat → Int → Int → ByteArray → List (S76) → ByteArray → Option (Bool)
 | 0, _, _, _, _, _ => none
 | k + 1, x25, x26, x259000, x259001, x259002 => if x26 < x25 then (if 0 ≤ x26 then (if x26 < (x259001.length : Int) then ((trystref08_Name.f k ((rd_T76 x259001 x26).f0)).bind fun t263 => (if t263 = true then (if (((rd_T76 x259001 x26).f1).length : Int) < 1 then (trystref08_Formed.j2 k x26 x25 x26 true x259000 x259001 x259002 ((rd_T76 x259001 x26).f0) ((rd_T76 x259001 x26).f1)) else (trystref08_Formed.j2 k x26 x25 x26 (decide ((((rd_T76 x259001 x26).f1).length : Int) > 60)) x259000 x259001 x259002 ((rd_T76 x259001 x26).f0) ((rd_T76 x259001 x26).f1))) else (trystref08_Formed.j2 k x26 x25 x26 true x259000 x259001 x259002 ((rd_T76 x259001 x26).f0) ((rd_T76 x259001 x26).f1)))) else (none)) else (none)) else (some true)
def trystref08_Formed.j2 : Nat → Int → Int → Int → Bool → ByteArray → List (S76) → ByteArray → ByteArray → List ByteArray → Option (Bool)
 | 0, _, _, _, _, _, _, _, _, _ => none
 | k + 1, x3, x25, x26, x49, x259000, x259001, x259002, x263000, x263001 => if x49 = true then (some false) else (trystref08_Formed.l1 k x25 x26 x3 0 x259000 x259001 x259002 x263000 x263001)
def trystref08_Formed.l1 : Nat → Int → Int → Int → Int → ByteArray → List (S76) → ByteArray → ByteArray → List ByteArray → Option (Bool)
 | 0, _, _, _, _, _, _, _, _, _ => none
 | k + 1, x25, x26, x50, x51, x259000, x259001, x259002, x263000, x263001 => if x51 < x50 then (if 0 ≤ x51 then (if x51 < (x259001.length : Int) then (if ((rd_T76 x259001 x51).f0).toList = x263000.toList then (some false) else (trystref08_Formed.l1 k x25 x26 x50 (wrap64 (x51 + 1)) x259000 x259001 x259002 x263000 x263001)) else (none)) else (none)) else (trystref08_Formed.l2 k x25 x26 (x263001.length : Int) 0 x259000 x259001 x259002 x263000 x263001)
def trystref08_Formed.l2 : Nat → Int → Int → Int → Int → ByteArray → List (S76) → ByteArray → ByteArray → List ByteArray → Option (Bool)
 | 0, _, _, _, _, _, _, _, _, _ => none
 | k + 1, x25, x26, x66, x67, x259000, x259001, x259002, x263000, x263001 => if x67 < x66 then (if 0 ≤ x67 then (if x67 < (x263001.length : Int) then ((trystref08_Clean.f k (rdOf ByteArray.empty x263001 x67) true).bind fun t266 => (if t266 = 0 then (trystref08_Formed.l2 k x25 x26 x66 (wrap64 (x67 + 1)) x259000 x259001 x259002 x263000 x263001) else (some false))) else (none)) else (none)) else (trystref08_Formed.l0 k x25 (wrap64 (x26 + 1)) x259000 x259001 x259002)
end
def trystref08_Formed.f (k : Nat) (a0_0 : ByteArray) (l0_1 : List (S76)) (a0_2 : ByteArray) : Option (Bool) := (trystref08_Name.f k a0_0).bind fun t259 => (if t259 = true then (if (l0_1.length : Int) > 60 then (trystref08_Formed.j0 k true a0_0 l0_1 a0_2) else ((trystref08_Clean.f k a0_2 false).bind fun t260 => (trystref08_Formed.j0 k (t260 != 0) a0_0 l0_1 a0_2))) else (trystref08_Formed.j0 k true a0_0 l0_1 a0_2))
set_option maxHeartbeats 8000000 in
set_option maxRecDepth 100000 in
theorem trystref08_Formed.calls (k : Nat) (a0_0 : ByteArray) (A0_1 : Option Addr) (c0_1 : Nat) (l0_1 : List (S76)) (a0_2 : ByteArray) (r : Bool) (w : World) (hG : GG w) (hr0_1 : Kd.C k76 w A0_1 l0_1.length l0_1) (hc0_1 : l0_1.length ≤ c0_1) (h : trystref08_Formed.f k a0_0 l0_1 a0_2 = some r) :
  Calls Tryz.prog 48 #[.agg #[.string a0_0, .slice A0_1 l0_1.length c0_1, .string a0_2]] w fun e w' => e = .returned (.bool r) ∧ Below w.heap.size w w' := by
 have hu53 := Tryz.underlying53; have hu76 := Tryz.underlying76; have HR0_1 := Aside0.mk hr0_1; have HC0_1 := Aside0.mk hc0_1; clear hr0_1 hc0_1; have HB := Aside0.mk (Below.refl w.heap.size w); have H : ((trystref08_Name.f k a0_0).bind fun t259 => (if t259 = true then (if (l0_1.length : Int) > 60 then (trystref08_Formed.j0 k true a0_0 l0_1 a0_2) else ((trystref08_Clean.f k a0_2 false).bind fun t260 => (trystref08_Formed.j0 k (t260 != 0) a0_0 l0_1 a0_2))) else (trystref08_Formed.j0 k true a0_0 l0_1 a0_2))) = some r := h; clear h; have HC2 := Aside0.mk H; clear H
 go_enter Tryz.func48, Tryz.ntmps48
 go_upto_region 1 with (first | ((with_reducible refine gate_dst (N := 1) rfl ?_); (try (refine gate_guard (by rfl) ?_; dsimp only)); refine zbox (N := 1) #[.string a0_0, .slice A0_1 l0_1.length c0_1, .string a0_2] 53 (fun gb258 hg w3 hbox hb => ?_); have n0_ := zw hb; have n1_ := Aside0.mk hbox; have n2_ := zg w hg; have n3_ := zg w hg; clear HB; have HB := n0_; have BK258 := n1_; have GW258 := n2_; have GE258 := n3_; clear n0_ n1_ n2_ n3_; clear hb hbox hg))
 repeat (go_quiet (first | ((with_reducible refine gate_dst (N := 1) rfl ?_); (try (refine gate_guard (by rfl) ?_; dsimp only)); refine zbox (N := 1) #[.string a0_0, .slice A0_1 l0_1.length c0_1, .string a0_2] 53 (fun gb258 hg w3 hbox hb => ?_); have n0_ := zw hb; have n1_ := Aside0.mk hbox; have n2_ := zg w hg; have n3_ := zg w hg; clear HB; have HB := n0_; have BK258 := n1_; have GW258 := n2_; have GE258 := n3_; clear n0_ n1_ n2_ n3_; clear hb hbox hg)); go_upto_region 1 with (first | ((with_reducible refine gate_dst (N := 1) rfl ?_); (try (refine gate_guard (by rfl) ?_; dsimp only)); refine zbox (N := 1) #[.string a0_0, .slice A0_1 l0_1.length c0_1, .string a0_2] 53 (fun gb258 hg w3 hbox hb => ?_); have n0_ := zw hb; have n1_ := Aside0.mk hbox; have n2_ := zg w hg; have n3_ := zg w hg; clear HB; have HB := n0_; have BK258 := n1_; have GW258 := n2_; have GE258 := n3_; clear n0_ n1_ n2_ n3_; clear hb hbox hg)))
 (try simp only [Act.put, List.setIfInBounds_toArray, List.set_cons_zero, List.set_cons_succ])
 go_cut [22] (fun v22 wc => ∃ (kq : Nat) (x22_1 : Bool), v22 = .bool x22_1 ∧ Aside0 (trystref08_Formed.j0 kq x22_1 a0_0 l0_1 a0_2 = some r) ∧ Aside0 (kq ≤ k) ∧ Aside0 (wc.heap[gb258]? = some (.cells #[.string a0_0, (.slice A0_1 l0_1.length c0_1), .string a0_2] 53 (0, 0))) ∧ Aside0 (Below w.heap.size w wc))
 case first =>
  have H := HC2.out; clear HC2; replace H := zO H; obtain ⟨t259, A4, H⟩ := H; replace H := zIb H; rcases H with ⟨rfl, H⟩ | ⟨rfl, H⟩
  ·replace H := zI H; rcases H with ⟨c6, H⟩ | ⟨c6, H⟩
   ·have c6b0 : decide (60 < (l0_1.length : Int)) = true := decide_eq_true c6; have c6b1 : decide (60 < l0_1.length) = true := decide_eq_true (by omega); clear c6
    (first | rw [c6b0] | (simp only [i64_w, i32_w]; rw [c6b0]) | skip)
    have H' := Aside0.mk H; clear H; have hcz7_0 := zc0 BK258; have hcz7_1 := zc1 BK258; have hcz7_2 := zc2 BK258; have hfz7_0 := zf BK258 0; have hfz7_1 := zf BK258 1; have hfz7_2 := zf BK258 2
    iterate 5 (first | go_quiet (first | (go_at_call 47; (with_reducible refine (trystref08_Name.calls k a0_0 true _ zG A4.out).mono ?_); rintro e w' ⟨rfl, ⟨nd, rfl⟩⟩; (try first | exact ⟨rfl, _, World.drewN_drewN _ _ _⟩ | exact ⟨rfl, _, Eq.trans (World.drewN_drewN _ _ _) (congrArg (World.drewN _) (Nat.add_assoc _ _ _))⟩))) | go_wp2_with (first | (go_at_call 47; (with_reducible refine (trystref08_Name.calls k a0_0 true _ zG A4.out).mono ?_); rintro e w' ⟨rfl, ⟨nd, rfl⟩⟩; (try first | exact ⟨rfl, _, World.drewN_drewN _ _ _⟩ | exact ⟨rfl, _, Eq.trans (World.drewN_drewN _ _ _) (congrArg (World.drewN _) (Nat.add_assoc _ _ _))⟩))))
    go_meet
    case rel => exact ⟨_, (true), zS, H', ⟨by first | omega | exact Nat.le_refl _⟩, ⟨blk_below BK258.out zX⟩, ⟨zB⟩⟩
   ·have c6b0 : decide (60 < (l0_1.length : Int)) = false := decide_eq_false c6; have c6b1 : decide (60 < l0_1.length) = false := decide_eq_false (by omega); clear c6
    (first | rw [c6b0] | (simp only [i64_w, i32_w]; rw [c6b0]) | skip)
    replace H := zO H; obtain ⟨t260, A8, H⟩ := H; have H' := Aside0.mk H; clear H; have hcz9_0 := zc0 BK258; have hcz9_1 := zc1 BK258; have hcz9_2 := zc2 BK258; have hfz9_0 := zf BK258 0; have hfz9_1 := zf BK258 1; have hfz9_2 := zf BK258 2
    iterate 5 (first | go_quiet (first | (go_at_call 47; (with_reducible refine (trystref08_Name.calls k a0_0 true _ zG A4.out).mono ?_); rintro e w' ⟨rfl, ⟨nd, rfl⟩⟩; (try first | exact ⟨rfl, _, World.drewN_drewN _ _ _⟩ | exact ⟨rfl, _, Eq.trans (World.drewN_drewN _ _ _) (congrArg (World.drewN _) (Nat.add_assoc _ _ _))⟩)) | (go_at_call 74; (with_reducible refine (trystref08_Clean.calls k a0_2 false t260 _ zG A8.out).mono ?_); rintro e w' ⟨rfl, ⟨nd, rfl⟩⟩; (try first | exact ⟨rfl, _, World.drewN_drewN _ _ _⟩ | exact ⟨rfl, _, Eq.trans (World.drewN_drewN _ _ _) (congrArg (World.drewN _) (Nat.add_assoc _ _ _))⟩))) | go_wp2_with (first | (go_at_call 47; (with_reducible refine (trystref08_Name.calls k a0_0 true _ zG A4.out).mono ?_); rintro e w' ⟨rfl, ⟨nd, rfl⟩⟩; (try first | exact ⟨rfl, _, World.drewN_drewN _ _ _⟩ | exact ⟨rfl, _, Eq.trans (World.drewN_drewN _ _ _) (congrArg (World.drewN _) (Nat.add_assoc _ _ _))⟩)) | (go_at_call 74; (with_reducible refine (trystref08_Clean.calls k a0_2 false t260 _ zG A8.out).mono ?_); rintro e w' ⟨rfl, ⟨nd, rfl⟩⟩; (try first | exact ⟨rfl, _, World.drewN_drewN _ _ _⟩ | exact ⟨rfl, _, Eq.trans (World.drewN_drewN _ _ _) (congrArg (World.drewN _) (Nat.add_assoc _ _ _))⟩))))
    go_meet
    case rel => exact ⟨_, ((t260 != 0)), zS, H', ⟨by first | omega | exact Nat.le_refl _⟩, ⟨blk_below BK258.out zX⟩, ⟨zB⟩⟩
  ·have H' := Aside0.mk H; clear H; have hcz10_0 := zc0 BK258; have hcz10_1 := zc1 BK258; have hcz10_2 := zc2 BK258; have hfz10_0 := zf BK258 0; have hfz10_1 := zf BK258 1; have hfz10_2 := zf BK258 2
   iterate 5 (first | go_quiet (first | (go_at_call 47; (with_reducible refine (trystref08_Name.calls k a0_0 false _ zG A4.out).mono ?_); rintro e w' ⟨rfl, ⟨nd, rfl⟩⟩; (try first | exact ⟨rfl, _, World.drewN_drewN _ _ _⟩ | exact ⟨rfl, _, Eq.trans (World.drewN_drewN _ _ _) (congrArg (World.drewN _) (Nat.add_assoc _ _ _))⟩))) | go_wp2_with (first | (go_at_call 47; (with_reducible refine (trystref08_Name.calls k a0_0 false _ zG A4.out).mono ?_); rintro e w' ⟨rfl, ⟨nd, rfl⟩⟩; (try first | exact ⟨rfl, _, World.drewN_drewN _ _ _⟩ | exact ⟨rfl, _, Eq.trans (World.drewN_drewN _ _ _) (congrArg (World.drewN _) (Nat.add_assoc _ _ _))⟩))))
   go_meet
   case rel => exact ⟨_, (true), zS, H', ⟨by first | omega | exact Nat.le_refl _⟩, ⟨blk_below BK258.out zX⟩, ⟨zB⟩⟩
 case rest =>
  clear HC2; obtain ⟨kq, x22_1, rfl, HA, HJ1, BK258, HB⟩ := hcut
  cases kq with
  | zero => exact absurd HA.out (by simp [trystref08_Formed.j0])
  | succ kj1 =>
   have H := HA.out; clear HA; simp only [trystref08_Formed.j0] at H; replace H := zIb H; rcases H with ⟨rfl, H⟩ | ⟨rfl, H⟩
   ·obtain rfl := Option.some.inj H; go_wp2
    repeat (go_quiet (fail); try go_wp2)
    go_ret; exact ⟨zE, zB⟩
   ·have H' := Aside0.mk H; clear H; have hcz12_0 := zc0 BK258; have hcz12_1 := zc1 BK258; have hcz12_2 := zc2 BK258; have hfz12_0 := zf BK258 0; have hfz12_1 := zf BK258 1; have hfz12_2 := zf BK258 2; go_wp2
    repeat (go_quiet (fail); try go_wp2)
    go_loopg [26] kj1 (fun kq v26 w' => ∃ (x26_2 : Int), v26 = .int .i64 x26_2 ∧ Aside0 (trystref08_Formed.l0 kq (l0_1.length : Int) x26_2 a0_0 l0_1 a0_2 = some r) ∧ Aside0 (kq ≤ kj1) ∧ Aside0 (w'.heap[gb258]? = some (.cells #[.string a0_0, (.slice A0_1 l0_1.length c0_1), .string a0_2] 53 (0, 0))) ∧ Aside0 (Below w.heap.size w w'))
    case atStart => exact ⟨(0), zS, H', ⟨Nat.le_refl _⟩, ⟨blk_below BK258.out zX⟩, ⟨zB⟩⟩
    case round =>
     clear H'; clear hcz12_0 hcz12_1 hcz12_2 hfz12_0 hfz12_1 hfz12_2; obtain ⟨x26_2, rfl, HA, HK2, BK258, HB⟩ := hrel
     cases gk with
     | zero => exact absurd HA.out (by simp [trystref08_Formed.l0])
     | succ k2 =>
      have H := HA.out; clear HA; simp only [trystref08_Formed.l0] at H; replace H := zId H; rcases H with ⟨-, c13b0, H⟩ | ⟨-, c13b0, H⟩
      ·replace H := zJd H; obtain ⟨-, c14b0, H⟩ := H; replace H := zJd H; obtain ⟨-, c15b0, H⟩ := H; have HC16 := Aside0.mk H; clear H; have hcz17_0 := zc0 BK258; have hcz17_1 := zc1 BK258; have hcz17_2 := zc2 BK258; have hfz17_0 := zf BK258 0; have hfz17_1 := zf BK258 1; have hfz17_2 := zf BK258 2; have p261 := zQ (0 ≤ (x26_2 : Int)); have q261 := zQ (x26_2 < (l0_1.length : Int)); obtain ⟨ad261, A261_1, c261_1, e261, hx261_0, hx261_1, hl261_1, hi261_1⟩ := at_T76 HR0_1.out x26_2 p261 q261
       cases e261
       replace hx261_0 := zx HB hx261_0; replace hx261_1 := zx HB hx261_1; have HR261_1 := Aside0.mk hi261_1; have HC261_1 := Aside0.mk hl261_1; clear hi261_1 hl261_1; replace p261 := eq_true p261; replace q261 := eq_true q261
       go_upto_region 7 with (first | ((with_reducible refine gate_dst (N := 4) rfl ?_); (try (refine gate_guard (by rfl) ?_; dsimp only)); refine zbox (N := 4) #[.string (⟨#[]⟩ : ByteArray), .slice none 0 0] 76 (fun gb262 hg w18 hbox hb => ?_); replace BK262 := Aside0.mk hbox; replace GW262 := zg w hg; replace GE262 := zg w hg; replace HB := zw hb; replace NB258_262 := zn BK258 hg; replace NB262_258 := zm BK258 hg; replace BK258 := zb BK258 hb; clear hb hbox hg; have hnb19 := NB262_258.out; have hnc19 := NB258_262.out; have hcz20_0 := zc0 BK262; have hcz20_1 := zc1 BK262; have hfz20_0 := zf BK262 0; have hfz20_1 := zf BK262 1))
       repeat (go_quiet (first | ((with_reducible refine gate_dst (N := 4) rfl ?_); (try (refine gate_guard (by rfl) ?_; dsimp only)); refine zbox (N := 4) #[.string (⟨#[]⟩ : ByteArray), .slice none 0 0] 76 (fun gb262 hg w18 hbox hb => ?_); replace BK262 := Aside0.mk hbox; replace GW262 := zg w hg; replace GE262 := zg w hg; replace HB := zw hb; replace NB258_262 := zn BK258 hg; replace NB262_258 := zm BK258 hg; replace BK258 := zb BK258 hb; clear hb hbox hg; have hnb19 := NB262_258.out; have hnc19 := NB258_262.out; have hcz20_0 := zc0 BK262; have hcz20_1 := zc1 BK262; have hfz20_0 := zf BK262 0; have hfz20_1 := zf BK262 1)); go_upto_region 7 with (first | ((with_reducible refine gate_dst (N := 4) rfl ?_); (try (refine gate_guard (by rfl) ?_; dsimp only)); refine zbox (N := 4) #[.string (⟨#[]⟩ : ByteArray), .slice none 0 0] 76 (fun gb262 hg w18 hbox hb => ?_); replace BK262 := Aside0.mk hbox; replace GW262 := zg w hg; replace GE262 := zg w hg; replace HB := zw hb; replace NB258_262 := zn BK258 hg; replace NB262_258 := zm BK258 hg; replace BK258 := zb BK258 hb; clear hb hbox hg; have hnb19 := NB262_258.out; have hnc19 := NB258_262.out; have hcz20_0 := zc0 BK262; have hcz20_1 := zc1 BK262; have hfz20_0 := zf BK262 0; have hfz20_1 := zf BK262 1)))
       (try simp only [Act.put, List.setIfInBounds_toArray, List.set_cons_zero, List.set_cons_succ])
       go_cut [49] (fun v49 wc => ∃ (kq : Nat) (x49_15 : Bool), v49 = .bool x49_15 ∧ Aside0 (trystref08_Formed.j2 kq x26_2 (l0_1.length : Int) x26_2 x49_15 a0_0 l0_1 a0_2 ((rd_T76 l0_1 x26_2).f0) ((rd_T76 l0_1 x26_2).f1) = some r) ∧ Aside0 (kq ≤ k2) ∧ Aside0 (wc.heap[gb258]? = some (.cells #[.string a0_0, (.slice (some ad261) l0_1.length c0_1), .string a0_2] 53 (0, 0))) ∧ Aside0 (wc.heap[gb262]? = some (.cells #[.string ((rd_T76 l0_1 x26_2).f0), (.slice A261_1 ((rd_T76 l0_1 x26_2).f1).length c261_1)] 76 (0, 0))) ∧ Aside0 (Below w.heap.size w wc))
       case first =>
        have H := HC16.out; clear HC16; replace H := zO H; obtain ⟨t263, A21, H⟩ := H; replace H := zIb H; rcases H with ⟨rfl, H⟩ | ⟨rfl, H⟩
        ·replace H := zId H; rcases H with ⟨c23, c23b0, H⟩ | ⟨c23, c23b0, H⟩
         ·have c23b1 : decide (((rd_T76 l0_1 x26_2).f1).length < 1) = true := decide_eq_true (by omega); clear c23
          (first | rw [c23b0] | (simp only [i64_w, i32_w]; rw [c23b0]) | skip)
          have H' := Aside0.mk H; clear H; have hnb24 := NB262_258.out; have hnc24 := NB258_262.out; have hcz25_0 := zc0 BK262; have hcz25_1 := zc1 BK262; have hfz25_0 := zf BK262 0; have hfz25_1 := zf BK262 1
          iterate 5 (first | go_quiet (first | (go_at_call 47; (with_reducible refine (trystref08_Name.calls k2 ((rd_T76 l0_1 x26_2).f0) true _ zG A21.out).mono ?_); rintro e w' ⟨rfl, ⟨nd, rfl⟩⟩; (try first | exact ⟨rfl, _, World.drewN_drewN _ _ _⟩ | exact ⟨rfl, _, Eq.trans (World.drewN_drewN _ _ _) (congrArg (World.drewN _) (Nat.add_assoc _ _ _))⟩))) | go_wp2_with (first | (go_at_call 47; (with_reducible refine (trystref08_Name.calls k2 ((rd_T76 l0_1 x26_2).f0) true _ zG A21.out).mono ?_); rintro e w' ⟨rfl, ⟨nd, rfl⟩⟩; (try first | exact ⟨rfl, _, World.drewN_drewN _ _ _⟩ | exact ⟨rfl, _, Eq.trans (World.drewN_drewN _ _ _) (congrArg (World.drewN _) (Nat.add_assoc _ _ _))⟩))))
          go_meet
          case rel => exact ⟨_, (true), zS, H', ⟨by have := HJ1.out; have := HK2.out; first | omega | exact Nat.le_refl _⟩, ⟨by (with_reducible repeat (first | refine blk_drewN ?_ _ | refine blk_drew ?_ | refine blk_alloc ?_ _)); refine blk_far ?_ NB258_262.out _; (with_reducible repeat (first | refine blk_drewN ?_ _ | refine blk_drew ?_ | refine blk_alloc ?_ _)); refine blk_far ?_ NB258_262.out _; (with_reducible repeat (first | refine blk_drewN ?_ _ | refine blk_drew ?_ | refine blk_alloc ?_ _)); exact BK258.out⟩, ⟨by (with_reducible repeat (first | refine blk_drewN ?_ _ | refine blk_drew ?_ | refine blk_alloc ?_ _)); refine blk_put (cs := #[.string ((rd_T76 l0_1 x26_2).f0), .slice none 0 0]) ?_ 1 _ rfl; (with_reducible repeat (first | refine blk_drewN ?_ _ | refine blk_drew ?_ | refine blk_alloc ?_ _)); refine blk_put (cs := #[.string (⟨#[]⟩ : ByteArray), .slice none 0 0]) ?_ 0 _ rfl; (with_reducible repeat (first | refine blk_drewN ?_ _ | refine blk_drew ?_ | refine blk_alloc ?_ _)); exact BK262.out⟩, ⟨zB⟩⟩
         ·have c23b1 : decide (((rd_T76 l0_1 x26_2).f1).length < 1) = false := decide_eq_false (by omega); clear c23
          (first | rw [c23b0] | (simp only [i64_w, i32_w]; rw [c23b0]) | skip)
          have H' := Aside0.mk H; clear H; have hnb26 := NB262_258.out; have hnc26 := NB258_262.out; have hcz27_0 := zc0 BK262; have hcz27_1 := zc1 BK262; have hfz27_0 := zf BK262 0; have hfz27_1 := zf BK262 1
          iterate 5 (first | go_quiet (first | (go_at_call 47; (with_reducible refine (trystref08_Name.calls k2 ((rd_T76 l0_1 x26_2).f0) true _ zG A21.out).mono ?_); rintro e w' ⟨rfl, ⟨nd, rfl⟩⟩; (try first | exact ⟨rfl, _, World.drewN_drewN _ _ _⟩ | exact ⟨rfl, _, Eq.trans (World.drewN_drewN _ _ _) (congrArg (World.drewN _) (Nat.add_assoc _ _ _))⟩))) | go_wp2_with (first | (go_at_call 47; (with_reducible refine (trystref08_Name.calls k2 ((rd_T76 l0_1 x26_2).f0) true _ zG A21.out).mono ?_); rintro e w' ⟨rfl, ⟨nd, rfl⟩⟩; (try first | exact ⟨rfl, _, World.drewN_drewN _ _ _⟩ | exact ⟨rfl, _, Eq.trans (World.drewN_drewN _ _ _) (congrArg (World.drewN _) (Nat.add_assoc _ _ _))⟩))))
          go_meet
          case rel => exact ⟨_, (decide ((((rd_T76 l0_1 x26_2).f1).length : Int) > 60)), zS, H', ⟨by have := HJ1.out; have := HK2.out; first | omega | exact Nat.le_refl _⟩, ⟨by (with_reducible repeat (first | refine blk_drewN ?_ _ | refine blk_drew ?_ | refine blk_alloc ?_ _)); refine blk_far ?_ NB258_262.out _; (with_reducible repeat (first | refine blk_drewN ?_ _ | refine blk_drew ?_ | refine blk_alloc ?_ _)); refine blk_far ?_ NB258_262.out _; (with_reducible repeat (first | refine blk_drewN ?_ _ | refine blk_drew ?_ | refine blk_alloc ?_ _)); exact BK258.out⟩, ⟨by (with_reducible repeat (first | refine blk_drewN ?_ _ | refine blk_drew ?_ | refine blk_alloc ?_ _)); refine blk_put (cs := #[.string ((rd_T76 l0_1 x26_2).f0), .slice none 0 0]) ?_ 1 _ rfl; (with_reducible repeat (first | refine blk_drewN ?_ _ | refine blk_drew ?_ | refine blk_alloc ?_ _)); refine blk_put (cs := #[.string (⟨#[]⟩ : ByteArray), .slice none 0 0]) ?_ 0 _ rfl; (with_reducible repeat (first | refine blk_drewN ?_ _ | refine blk_drew ?_ | refine blk_alloc ?_ _)); exact BK262.out⟩, ⟨zB⟩⟩
        ·have H' := Aside0.mk H; clear H; have hnb28 := NB262_258.out; have hnc28 := NB258_262.out; have hcz29_0 := zc0 BK262; have hcz29_1 := zc1 BK262; have hfz29_0 := zf BK262 0; have hfz29_1 := zf BK262 1
         iterate 5 (first | go_quiet (first | (go_at_call 47; (with_reducible refine (trystref08_Name.calls k2 ((rd_T76 l0_1 x26_2).f0) false _ zG A21.out).mono ?_); rintro e w' ⟨rfl, ⟨nd, rfl⟩⟩; (try first | exact ⟨rfl, _, World.drewN_drewN _ _ _⟩ | exact ⟨rfl, _, Eq.trans (World.drewN_drewN _ _ _) (congrArg (World.drewN _) (Nat.add_assoc _ _ _))⟩))) | go_wp2_with (first | (go_at_call 47; (with_reducible refine (trystref08_Name.calls k2 ((rd_T76 l0_1 x26_2).f0) false _ zG A21.out).mono ?_); rintro e w' ⟨rfl, ⟨nd, rfl⟩⟩; (try first | exact ⟨rfl, _, World.drewN_drewN _ _ _⟩ | exact ⟨rfl, _, Eq.trans (World.drewN_drewN _ _ _) (congrArg (World.drewN _) (Nat.add_assoc _ _ _))⟩))))
         go_meet
         case rel => exact ⟨_, (true), zS, H', ⟨by have := HJ1.out; have := HK2.out; first | omega | exact Nat.le_refl _⟩, ⟨by (with_reducible repeat (first | refine blk_drewN ?_ _ | refine blk_drew ?_ | refine blk_alloc ?_ _)); refine blk_far ?_ NB258_262.out _; (with_reducible repeat (first | refine blk_drewN ?_ _ | refine blk_drew ?_ | refine blk_alloc ?_ _)); refine blk_far ?_ NB258_262.out _; (with_reducible repeat (first | refine blk_drewN ?_ _ | refine blk_drew ?_ | refine blk_alloc ?_ _)); exact BK258.out⟩, ⟨by (with_reducible repeat (first | refine blk_drewN ?_ _ | refine blk_drew ?_ | refine blk_alloc ?_ _)); refine blk_put (cs := #[.string ((rd_T76 l0_1 x26_2).f0), .slice none 0 0]) ?_ 1 _ rfl; (with_reducible repeat (first | refine blk_drewN ?_ _ | refine blk_drew ?_ | refine blk_alloc ?_ _)); refine blk_put (cs := #[.string (⟨#[]⟩ : ByteArray), .slice none 0 0]) ?_ 0 _ rfl; (with_reducible repeat (first | refine blk_drewN ?_ _ | refine blk_drew ?_ | refine blk_alloc ?_ _)); exact BK262.out⟩, ⟨zB⟩⟩
       case rest =>
        clear HC16; clear c13b0 c14b0 c15b0 hcz17_0 hcz17_1 hcz17_2 hcz20_0 hcz20_1 hfz17_0 hfz17_1 hfz17_2 hfz20_0 hfz20_1 hx261_0 hx261_1 p261 q261; obtain ⟨kq, x49_15, rfl, HA, HJ15, BK258, BK262, HB⟩ := hcut
        cases kq with
        | zero => exact absurd HA.out (by simp [trystref08_Formed.j2])
        | succ kj15 =>
         have H := HA.out; clear HA; simp only [trystref08_Formed.j2] at H; replace H := zIb H; rcases H with ⟨rfl, H⟩ | ⟨rfl, H⟩
         ·obtain rfl := Option.some.inj H; go_wp2
          repeat (go_quiet (fail); try go_wp2)
          go_ret; exact ⟨zE, zB⟩
         ·have H' := Aside0.mk H; clear H; go_wp2
          repeat (go_quiet (fail); try go_wp2)
          go_loopg [51] kj15 (fun kq v51 w' => ∃ (x51_4 : Int), v51 = .int .i64 x51_4 ∧ Aside0 (trystref08_Formed.l1 kq (l0_1.length : Int) x26_2 x26_2 x51_4 a0_0 l0_1 a0_2 ((rd_T76 l0_1 x26_2).f0) ((rd_T76 l0_1 x26_2).f1) = some r) ∧ Aside0 (kq ≤ kj15) ∧ Aside0 (w'.heap[gb258]? = some (.cells #[.string a0_0, (.slice (some ad261) l0_1.length c0_1), .string a0_2] 53 (0, 0))) ∧ Aside0 (w'.heap[gb262]? = some (.cells #[.string ((rd_T76 l0_1 x26_2).f0), (.slice A261_1 ((rd_T76 l0_1 x26_2).f1).length c261_1)] 76 (0, 0))) ∧ Aside0 (Below w.heap.size w w'))
          case atStart => exact ⟨(0), zS, H', ⟨Nat.le_refl _⟩, ⟨blk_below BK258.out zX⟩, ⟨blk_below BK262.out zX⟩, ⟨zB⟩⟩
          case round =>
           clear H'; obtain ⟨x51_4, rfl, HA, HK4, BK258, BK262, HB⟩ := hrel
           cases gk with
           | zero => exact absurd HA.out (by simp [trystref08_Formed.l1])
           | succ k4 =>
            have H := HA.out; clear HA; simp only [trystref08_Formed.l1] at H; replace H := zId H; rcases H with ⟨-, c31b0, H⟩ | ⟨-, c31b0, H⟩
            ·replace H := zJd H; obtain ⟨-, c32b0, H⟩ := H; replace H := zJd H; obtain ⟨-, c33b0, H⟩ := H; replace H := zIe H; rcases H with ⟨-, c34b0, c34b1, H⟩ | ⟨c34, c34b0, c34b1, H⟩
             ·obtain rfl := Option.some.inj H; have hnb35 := NB258_262.out; have hnc35 := NB262_258.out; have hcz36_0 := zc0 BK258; have hcz36_1 := zc1 BK258; have hcz36_2 := zc2 BK258; have hfz36_0 := zf BK258 0; have hfz36_1 := zf BK258 1; have hfz36_2 := zf BK258 2; have p264 := zQ (0 ≤ (x51_4 : Int)); have q264 := zQ (x51_4 < (l0_1.length : Int)); obtain ⟨ad264, A264_1, c264_1, e264, hx264_0, hx264_1, hl264_1, hi264_1⟩ := at_T76 HR0_1.out x51_4 p264 q264; obtain rfl : ad261 = ad264 := (by injection e264); replace hx264_0 := zx HB hx264_0
              replace hx264_1 := zx HB hx264_1; have HR264_1 := Aside0.mk hi264_1; have HC264_1 := Aside0.mk hl264_1; clear hi264_1 hl264_1; replace p264 := eq_true p264; replace q264 := eq_true q264; have hcz37_0 : wr.cell? ⟨gb262, 0, none⟩ = some (.string ((rd_T76 l0_1 x26_2).f0)) := (blk_cell BK262.out 0).trans rfl; have hcz37_1 : wr.cell? ⟨gb262, 1, none⟩ = some (.slice A261_1 ((rd_T76 l0_1 x26_2).f1).length c261_1) := (blk_cell BK262.out 1).trans rfl; have hfz37_0 := zf BK262 0; have hfz37_1 := zf BK262 1; go_wp2
              repeat (go_quiet (fail); try go_wp2)
              go_ret; exact ⟨zE, zB⟩
             ·have H' := Aside0.mk H; clear H; have hnb38 := NB258_262.out; have hnc38 := NB262_258.out; have hcz39_0 := zc0 BK258; have hcz39_1 := zc1 BK258; have hcz39_2 := zc2 BK258; have hfz39_0 := zf BK258 0; have hfz39_1 := zf BK258 1; have hfz39_2 := zf BK258 2; have p264 := zQ (0 ≤ (x51_4 : Int)); have q264 := zQ (x51_4 < (l0_1.length : Int)); obtain ⟨ad264, A264_1, c264_1, e264, hx264_0, hx264_1, hl264_1, hi264_1⟩ := at_T76 HR0_1.out x51_4 p264 q264; obtain rfl : ad261 = ad264 := (by injection e264); replace hx264_0 := zx HB hx264_0
              replace hx264_1 := zx HB hx264_1; have HR264_1 := Aside0.mk hi264_1; have HC264_1 := Aside0.mk hl264_1; clear hi264_1 hl264_1; replace p264 := eq_true p264; replace q264 := eq_true q264; have hcz40_0 : wr.cell? ⟨gb262, 0, none⟩ = some (.string ((rd_T76 l0_1 x26_2).f0)) := (blk_cell BK262.out 0).trans rfl; have hcz40_1 : wr.cell? ⟨gb262, 1, none⟩ = some (.slice A261_1 ((rd_T76 l0_1 x26_2).f1).length c261_1) := (blk_cell BK262.out 1).trans rfl; have hfz40_0 := zf BK262 0; have hfz40_1 := zf BK262 1; go_wp2
              repeat (go_quiet (fail); try go_wp2)
              go_roundg k4
              case measure => have := HJ1.out; have := HK2.out; have := HJ15.out; have := HK4.out; omega
              case rel => exact ⟨(wrap64 (x51_4 + 1)), zS, H', ⟨by have := HJ1.out; have := HK2.out; have := HJ15.out; have := HK4.out; omega⟩, ⟨blk_below BK258.out zX⟩, ⟨blk_below BK262.out zX⟩, ⟨zB⟩⟩
            ·have H' := Aside0.mk H; clear H; have hnb41 := NB262_258.out; have hnc41 := NB258_262.out; have hcz42_0 : wr.cell? ⟨gb262, 0, none⟩ = some (.string ((rd_T76 l0_1 x26_2).f0)) := (blk_cell BK262.out 0).trans rfl; have hcz42_1 : wr.cell? ⟨gb262, 1, none⟩ = some (.slice A261_1 ((rd_T76 l0_1 x26_2).f1).length c261_1) := (blk_cell BK262.out 1).trans rfl; have hfz42_0 := zf BK262 0; have hfz42_1 := zf BK262 1; go_wp2
             repeat (go_quiet (fail); try go_wp2)
             go_loopg [67] k4 (fun kq v67 w' => ∃ (x67_5 : Int), v67 = .int .i64 x67_5 ∧ Aside0 (trystref08_Formed.l2 kq (l0_1.length : Int) x26_2 (((rd_T76 l0_1 x26_2).f1).length : Int) x67_5 a0_0 l0_1 a0_2 ((rd_T76 l0_1 x26_2).f0) ((rd_T76 l0_1 x26_2).f1) = some r) ∧ Aside0 (kq ≤ k4) ∧ Aside0 (w'.heap[gb258]? = some (.cells #[.string a0_0, (.slice (some ad261) l0_1.length c0_1), .string a0_2] 53 (0, 0))) ∧ Aside0 (w'.heap[gb262]? = some (.cells #[.string ((rd_T76 l0_1 x26_2).f0), (.slice A261_1 ((rd_T76 l0_1 x26_2).f1).length c261_1)] 76 (0, 0))) ∧ Aside0 (Below w.heap.size w w'))
             case atStart => exact ⟨(0), zS, H', ⟨Nat.le_refl _⟩, ⟨blk_below BK258.out zX⟩, ⟨blk_below BK262.out zX⟩, ⟨zB⟩⟩
             case round =>
              clear H'; clear c31b0 hcz42_0 hcz42_1 hfz42_0 hfz42_1; obtain ⟨x67_5, rfl, HA, HK5, BK258, BK262, HB⟩ := hrel
              cases gk with
              | zero => exact absurd HA.out (by simp [trystref08_Formed.l2])
              | succ k5 =>
               have H := HA.out; clear HA; simp only [trystref08_Formed.l2] at H; replace H := zId H; rcases H with ⟨-, c43b0, H⟩ | ⟨-, c43b0, H⟩
               ·replace H := zJd H; obtain ⟨-, c44b0, H⟩ := H; replace H := zJd H; obtain ⟨-, c45b0, H⟩ := H; replace H := zO H; obtain ⟨t266, A46, H⟩ := H; replace H := zIe H; rcases H with ⟨-, c47b0, c47b1, H⟩ | ⟨c47, c47b0, c47b1, H⟩
                ·have H' := Aside0.mk H; clear H; have hnb48 := NB262_258.out; have hnc48 := NB258_262.out; have hcz49_0 : wr.cell? ⟨gb262, 0, none⟩ = some (.string ((rd_T76 l0_1 x26_2).f0)) := (blk_cell BK262.out 0).trans rfl; have hcz49_1 : wr.cell? ⟨gb262, 1, none⟩ = some (.slice A261_1 ((rd_T76 l0_1 x26_2).f1).length c261_1) := (blk_cell BK262.out 1).trans rfl; have hfz49_0 := zf BK262 0; have hfz49_1 := zf BK262 1; have p265 := zQ (0 ≤ (x67_5 : Int)); have q265 := zQ (x67_5 < (((rd_T76 l0_1 x26_2).f1).length : Int)); obtain ⟨ad265, e265, hx265_0⟩ := Kd.at_string HR261_1.out x67_5 p265 q265
                 cases e265
                 replace hx265_0 := zx HB hx265_0; replace p265 := eq_true p265; replace q265 := eq_true q265
                 iterate 5 (first | go_quiet (first | (go_at_call 74; (with_reducible refine (trystref08_Clean.calls k5 (rdOf ByteArray.empty ((rd_T76 l0_1 x26_2).f1) x67_5) true t266 _ zG A46.out).mono ?_); rintro e w' ⟨rfl, ⟨nd, rfl⟩⟩; (try first | exact ⟨rfl, _, World.drewN_drewN _ _ _⟩ | exact ⟨rfl, _, Eq.trans (World.drewN_drewN _ _ _) (congrArg (World.drewN _) (Nat.add_assoc _ _ _))⟩))) | go_wp2_with (first | (go_at_call 74; (with_reducible refine (trystref08_Clean.calls k5 (rdOf ByteArray.empty ((rd_T76 l0_1 x26_2).f1) x67_5) true t266 _ zG A46.out).mono ?_); rintro e w' ⟨rfl, ⟨nd, rfl⟩⟩; (try first | exact ⟨rfl, _, World.drewN_drewN _ _ _⟩ | exact ⟨rfl, _, Eq.trans (World.drewN_drewN _ _ _) (congrArg (World.drewN _) (Nat.add_assoc _ _ _))⟩))))
                 go_roundg k5
                 case measure => have := HJ1.out; have := HK2.out; have := HJ15.out; have := HK4.out; have := HK5.out; omega
                 case rel => exact ⟨(wrap64 (x67_5 + 1)), zS, H', ⟨by have := HJ1.out; have := HK2.out; have := HJ15.out; have := HK4.out; have := HK5.out; omega⟩, ⟨blk_below BK258.out zX⟩, ⟨blk_below BK262.out zX⟩, ⟨zB⟩⟩
                ·obtain rfl := Option.some.inj H; have hnb50 := NB262_258.out; have hnc50 := NB258_262.out; have hcz51_0 : wr.cell? ⟨gb262, 0, none⟩ = some (.string ((rd_T76 l0_1 x26_2).f0)) := (blk_cell BK262.out 0).trans rfl; have hcz51_1 : wr.cell? ⟨gb262, 1, none⟩ = some (.slice A261_1 ((rd_T76 l0_1 x26_2).f1).length c261_1) := (blk_cell BK262.out 1).trans rfl; have hfz51_0 := zf BK262 0; have hfz51_1 := zf BK262 1; have p265 := zQ (0 ≤ (x67_5 : Int)); have q265 := zQ (x67_5 < (((rd_T76 l0_1 x26_2).f1).length : Int)); obtain ⟨ad265, e265, hx265_0⟩ := Kd.at_string HR261_1.out x67_5 p265 q265
                 cases e265
                 replace hx265_0 := zx HB hx265_0; replace p265 := eq_true p265; replace q265 := eq_true q265
                 iterate 5 (first | go_quiet (first | (go_at_call 74; (with_reducible refine (trystref08_Clean.calls k5 (rdOf ByteArray.empty ((rd_T76 l0_1 x26_2).f1) x67_5) true t266 _ zG A46.out).mono ?_); rintro e w' ⟨rfl, ⟨nd, rfl⟩⟩; (try first | exact ⟨rfl, _, World.drewN_drewN _ _ _⟩ | exact ⟨rfl, _, Eq.trans (World.drewN_drewN _ _ _) (congrArg (World.drewN _) (Nat.add_assoc _ _ _))⟩))) | go_wp2_with (first | (go_at_call 74; (with_reducible refine (trystref08_Clean.calls k5 (rdOf ByteArray.empty ((rd_T76 l0_1 x26_2).f1) x67_5) true t266 _ zG A46.out).mono ?_); rintro e w' ⟨rfl, ⟨nd, rfl⟩⟩; (try first | exact ⟨rfl, _, World.drewN_drewN _ _ _⟩ | exact ⟨rfl, _, Eq.trans (World.drewN_drewN _ _ _) (congrArg (World.drewN _) (Nat.add_assoc _ _ _))⟩))))
                 go_ret; exact ⟨zE, zB⟩
               ·have H' := Aside0.mk H; clear H; go_wp2
                repeat (go_quiet (fail); try go_wp2)
                go_roundg k5
                case measure => have := HJ1.out; have := HK2.out; have := HJ15.out; have := HK4.out; have := HK5.out; omega
                case rel => exact ⟨(wrap64 (x26_2 + 1)), zS, H', ⟨by have := HJ1.out; have := HK2.out; have := HJ15.out; have := HK4.out; have := HK5.out; omega⟩, ⟨blk_below BK258.out zX⟩, ⟨zB⟩⟩
      ·obtain rfl := Option.some.inj H; go_wp2
       repeat (go_quiet (fail); try go_wp2)
       go_ret; exact ⟨zE, zB⟩
end Go.Proofs.YtdojmdbaiddkgaaGreatDoor.Print
end
section
set_option linter.unusedVariables false
set_option linter.unusedSimpArgs false
set_option linter.unusedSectionVars false
namespace Go.Proofs.YtdojmdbaiddkgaaGreatDoor.Pure
open Go.RowKit Go.Proofs.YtdojmdbaiddkgaaGreatDoor.Print Go.Proofs.YtdojmdbaiddkgaaGreatDoorW.PrintWords Go.Proofs.YtdojmdbaiddkgaaGreatDoorW.PrintLast
def upN (n : Nat) : Bool := (decide (65 ≤ n) && decide (n ≤ 90)) || (decide (48 ≤ n) && decide (n ≤ 57)) || n == 45
def upB (c : UInt8) : Bool := upN c.toNat
theorem sign_all : ∀ n : Fin 256, line_sign.f ((n.1 : Nat) : Int) true = some (upN n.1) := by decide +kernel
theorem letter_all : ∀ n : Fin 256, trystref08_letter.f ((n.1 : Nat) : Int) false = some (upN n.1) := by decide +kernel
theorem sign_up (c : UInt8) : line_sign.f c.toNat true = some (upB c) := sign_all ⟨c.toNat, c.toNat_lt⟩
theorem letter_up (c : UInt8) : trystref08_letter.f c.toNat false = some (upB c) := letter_all ⟨c.toNat, c.toNat_lt⟩
def nameR (s : ByteArray) : Bool := s.data.toList.all upB && (decide (1 ≤ s.size) && decide (s.size ≤ 60))
theorem nameL_ev (s : ByteArray) (hs : s.size ≤ 140737488351232) : ∀ (n i : Nat), s.size - i ≤ n → i ≤ s.size → Ev (fun k => line_Name.l0 k s (s.size : Int) i) ((s.data.toList.drop i).all upB && (decide (1 ≤ s.size) && decide (s.size ≤ 60)))
  | 0, i, h, hi => by
    obtain rfl : i = s.size := by omega
    refine Ev.step (f := fun _ => some (decide (1 ≤ s.size) && decide (s.size ≤ 60))) (fun k => ?_) ?_
    · simp only [line_Name.l0]; rw [if_neg (by omega)]
      by_cases h1 : 1 ≤ s.size
      · rw [if_pos (by omega), decide_eq_true h1, Bool.true_and]; exact congrArg some (decide_eq_decide.2 (by omega))
      · rw [if_neg (by omega), decide_eq_false h1, Bool.false_and]
    · rw [List.drop_of_length_le (by simp)]; exact Ev.now _
  | n + 1, i, h, hi => by
    by_cases hlt : i < s.size
    · rw [drop_at s i hlt]
      have hb := bt_nat s i
      have ih := nameL_ev s hs n (i + 1) (by omega) (by omega)
      generalize s.data.toList.getD i 0 = c at *
      refine Ev.step (f := fun k => if upB c = true then line_Name.l0 k s (s.size : Int) ((i + 1 : Nat) : Int) else some false) (fun k => ?_) ?_
      · simp only [line_Name.l0, hb, sign_up, Option.bind_some]
        rw [if_pos (by omega), if_pos (by omega), if_pos (by omega), wrap_one i (by omega)]
      · rw [List.all_cons]
        cases hok : upB c
        · exact Ev.now false
        · simpa using ih
    · exact nameL_ev s hs 0 i (by omega) hi
theorem nameL (s : ByteArray) (hs : s.size ≤ 140737488351232) : Ev (fun k => line_Name.f k s) (nameR s) := by
  have := nameL_ev s hs s.size 0 (by omega) (by omega)
  rw [List.drop_zero] at this
  exact this
theorem refName_ev (s : ByteArray) (hs : s.size ≤ 140737488351232) : ∀ (n i : Nat), s.size - i ≤ n → i ≤ s.size → Ev (fun k => trystref08_Name.l0 k s (s.size : Int) i) ((s.data.toList.drop i).all upB && (decide (1 ≤ s.size) && decide (s.size ≤ 60)))
  | 0, i, h, hi => by
    obtain rfl : i = s.size := by omega
    refine Ev.step (f := fun _ => some (decide (1 ≤ s.size) && decide (s.size ≤ 60))) (fun k => ?_) ?_
    · simp only [trystref08_Name.l0]; rw [if_neg (by omega)]
      by_cases h1 : 1 ≤ s.size
      · rw [if_pos (by omega), decide_eq_true h1, Bool.true_and]; exact congrArg some (decide_eq_decide.2 (by omega))
      · rw [if_neg (by omega), decide_eq_false h1, Bool.false_and]
    · rw [List.drop_of_length_le (by simp)]; exact Ev.now _
  | n + 1, i, h, hi => by
    by_cases hlt : i < s.size
    · rw [drop_at s i hlt]
      have hb := bt_nat s i
      have ih := refName_ev s hs n (i + 1) (by omega) (by omega)
      generalize s.data.toList.getD i 0 = c at *
      refine Ev.step (f := fun k => if upB c = true then trystref08_Name.l0 k s (s.size : Int) ((i + 1 : Nat) : Int) else some false) (fun k => ?_) ?_
      · simp only [trystref08_Name.l0, hb, letter_up, Option.bind_some]
        rw [if_pos (by omega), if_pos (by omega), if_pos (by omega), wrap_one i (by omega)]
      · rw [List.all_cons]
        cases hok : upB c
        · exact Ev.now false
        · simpa using ih
    · exact refName_ev s hs 0 i (by omega) hi
theorem refName (s : ByteArray) (hs : s.size ≤ 140737488351232) : Ev (fun k => trystref08_Name.f k s) (nameR s) := by
  have := refName_ev s hs s.size 0 (by omega) (by omega)
  rw [List.drop_zero] at this
  exact this
def cleanB (x : ByteArray) : Bool := decide (cleanR true x.data.toList = 0)
def parR (nm : ByteArray) (l : List ByteArray) : Bool := nameR nm && (decide (1 ≤ l.length) && (decide (l.length ≤ 60) && l.all cleanB))
theorem cleanB_ne {x : ByteArray} (h : cleanB x = false) : ¬ cleanR true x.data.toList = 0 := of_decide_eq_false h
theorem parL_ev (l : List ByteArray) (hl : l.length ≤ 60) (hs : ∀ x ∈ l, x.size ≤ 140737488351232) : ∀ (n i : Nat), i + n = l.length → Ev (fun k => line_Param_formed.l0 k l (l.length : Int) i) ((l.drop i).all cleanB)
  | 0, i, h => by
    rw [List.drop_eq_nil_of_le (by omega)]
    exact Ev.step (f := fun _ => some true) (fun k => by simp only [line_Param_formed.l0]; rw [if_neg (by omega)]) (Ev.now _)
  | n + 1, i, h => by
    have hil : i < l.length := by omega
    rw [List.drop_eq_getElem_cons hil, List.all_cons]
    refine Ev.step (f := fun k => (escape_Clean.f k l[i] true).bind fun t => if t = 0 then line_Param_formed.l0 k l (l.length : Int) ((i + 1 : Nat) : Int) else some false) (fun k => by simp only [line_Param_formed.l0]; rw [if_pos (by omega), if_pos (by omega), if_pos (by omega), rdS l i hil, wrapS i _ hil (by omega)]) ?_
    refine Ev.bind (escClean _ _ (hs _ (List.getElem_mem hil))) ?_
    have ih := parL_ev l hl hs n (i + 1) (by omega)
    cases hc : cleanB l[i] with
    | false => exact Ev.congr (f := fun _ => some false) (fun k => by rw [if_neg (cleanB_ne hc)]) (Ev.now _)
    | true => rw [Bool.true_and]; exact Ev.congr (fun k => by rw [if_pos (of_decide_eq_true hc)]) ih
theorem parL_f (nm : ByteArray) (l : List ByteArray) (hn : nm.size ≤ 140737488351232) (hs : ∀ x ∈ l, x.size ≤ 140737488351232) : Ev (fun k => line_Param_formed.f k nm l) (parR nm l) := by
  have hno : Ev (fun k => line_Param_formed.j0 k true nm l) false := Ev.step (f := fun _ => some false) (fun k => by simp only [line_Param_formed.j0]; rfl) (Ev.now _)
  refine Ev.bind (nameL nm hn) ?_
  unfold parR
  cases nameR nm with
  | false => exact Ev.congr (fun k => by rw [if_neg (by simp)]) hno
  | true =>
    by_cases h1 : 1 ≤ l.length
    · by_cases h2 : l.length ≤ 60
      · rw [decide_eq_true h1, decide_eq_true h2]
        have e : decide ((l.length : Int) > 60) = false := decide_eq_false (by omega)
        refine Ev.congr (f := fun k => line_Param_formed.j0 k false nm l) (fun k => by rw [if_pos rfl, if_neg (by omega), e]) ?_
        have := parL_ev l h2 hs l.length 0 (by omega)
        rw [List.drop_zero] at this
        exact Ev.step (fun k => by simp only [line_Param_formed.j0]; rfl) this
      · rw [decide_eq_true h1, decide_eq_false h2]
        have e : decide ((l.length : Int) > 60) = true := decide_eq_true (by omega)
        exact Ev.congr (fun k => by rw [if_pos rfl, if_neg (by omega), e]) hno
    · rw [decide_eq_false h1]
      exact Ev.congr (fun k => by rw [if_pos rfl, if_pos (by omega)]) hno
def okPs : List LP → List LP → Bool
  | _, [] => true
  | seen, p :: t => parR p.f0 p.f1 && (!seen.any (hasN p.f0) && okPs (seen ++ [p]) t)
def formR (nm : ByteArray) (l : List LP) (v : ByteArray) : Bool := nameR nm && (decide (l.length ≤ 60) && (decide (cleanR false v.data.toList = 0) && okPs [] l))
theorem idxN_any (a : ByteArray) : ∀ (l : List LP) (i : Nat), decide (idxN a l i ≥ 0) = l.any (hasN a)
  | [], i => rfl
  | p :: t, i => by
    rw [idxN, List.any_cons]
    cases h : hasN a p with
    | true => rw [if_pos rfl, Bool.true_or]; exact decide_eq_true (by omega)
    | false => rw [if_neg (by simp), Bool.false_or]; exact idxN_any a t (i + 1)
theorem rdP (l : List LP) (i : Nat) (h : i < l.length) : rd_T77 l (i : Int) = l[i] := by
  unfold rd_T77
  rw [Int.toNat_natCast, List.getD_eq_getElem?_getD, List.getElem?_eq_getElem h]; rfl
def ParB' (p : LP) : Prop := p.f0.size ≤ 140737488351232 ∧ ∀ x ∈ p.f1, x.size ≤ 140737488351232
theorem formL_ev (nm v : ByteArray) (l : List LP) (hl : l.length ≤ 60) (hs : ∀ p ∈ l, ParB' p) : ∀ (n i : Nat), i + n = l.length → Ev (fun k => line_Formed.l0 k l (l.length : Int) i nm l v) (okPs (l.take i) (l.drop i))
  | 0, i, h => by
    rw [List.drop_eq_nil_of_le (by omega)]
    exact Ev.step (f := fun _ => some true) (fun k => by simp only [line_Formed.l0]; rw [if_neg (by omega)]) (Ev.now _)
  | n + 1, i, h => by
    have hil : i < l.length := by omega
    rw [List.drop_eq_getElem_cons hil, okPs]
    have hp := hs _ (List.getElem_mem hil)
    refine Ev.step (f := fun k => (line_Param_formed.f k l[i].f0 l[i].f1).bind fun t => if t = true then (if idxN l[i].f0 (l.take i) 0 ≥ 0 then some false else line_Formed.l0 k l (l.length : Int) ((i + 1 : Nat) : Int) nm l v) else some false) (fun k => by
      simp only [line_Formed.l0]
      rw [if_pos (by omega), if_pos (by omega), if_pos (by omega), rdP l i hil, wrapS i _ hil (by omega), if_pos (show (i : Int) ≤ (l.length : Int) by omega)]
      rfl) ?_
    refine Ev.bind (parL_f _ _ hp.1 hp.2) ?_
    have ih := formL_ev nm v l hl hs n (i + 1) (by omega)
    rw [List.take_succ_eq_append_getElem hil] at ih
    cases hc : parR l[i].f0 l[i].f1 with
    | false => exact Ev.congr (f := fun _ => some false) (fun k => by rw [if_neg (by simp)]) (Ev.now _)
    | true =>
      rw [Bool.true_and]
      have hi := idxN_any l[i].f0 (l.take i) 0
      cases ha : (l.take i).any (hasN l[i].f0) with
      | true =>
        rw [ha] at hi
        exact Ev.congr (f := fun _ => some false) (fun k => by rw [if_pos rfl, if_pos (of_decide_eq_true hi)]) (Ev.now _)
      | false =>
        rw [ha] at hi
        rw [Bool.not_false, Bool.true_and]
        exact Ev.congr (fun k => by rw [if_pos rfl, if_neg (of_decide_eq_false hi)]) ih
theorem formL (nm v : ByteArray) (l : List LP) (hn : nm.size ≤ 140737488351232) (hv : v.size ≤ 140737488351232) (hs : ∀ p ∈ l, ParB' p) : Ev (fun k => line_Formed.f k nm l v) (formR nm l v) := by
  have hno : Ev (fun k => line_Formed.j0 k true nm l v) false := Ev.step (f := fun _ => some false) (fun k => by simp only [line_Formed.j0]; rfl) (Ev.now _)
  refine Ev.bind (nameL nm hn) ?_
  unfold formR
  cases nameR nm with
  | false => exact Ev.congr (fun k => by rw [if_neg (by simp)]) hno
  | true =>
    by_cases h2 : l.length ≤ 60
    · rw [decide_eq_true h2]
      refine Ev.congr (f := fun k => (escape_Clean.f k v false).bind fun t => line_Formed.j0 k (t != 0) nm l v) (fun k => by rw [if_pos rfl, if_neg (by omega)]) ?_
      refine Ev.bind (escClean v false hv) ?_
      by_cases h3 : cleanR false v.data.toList = 0
      · rw [decide_eq_true h3, h3]
        have := formL_ev nm v l h2 hs l.length 0 (by omega)
        rw [List.drop_zero, List.take_zero] at this
        exact Ev.step (fun k => by simp only [line_Formed.j0]; rfl) this
      · rw [decide_eq_false h3]
        have e : (cleanR false v.data.toList != 0) = true := by simpa using h3
        rw [e]; exact hno
    · rw [decide_eq_false h2]
      exact Ev.congr (fun k => by rw [if_pos rfl, if_pos (by omega)]) hno
theorem refF2_ev (nm v pn : ByteArray) (l : List RP) (x : List ByteArray) (i : Nat) (hil : i < l.length) (hl : l.length ≤ 60) (hx : x.length ≤ 60) (hs : ∀ z ∈ x, z.size ≤ 140737488351232) {b : Bool} (hb : Ev (fun k => trystref08_Formed.l0 k (l.length : Int) ((i + 1 : Nat) : Int) nm l v) b) :
    ∀ (n j : Nat), j + n = x.length → Ev (fun k => trystref08_Formed.l2 k (l.length : Int) (i : Int) (x.length : Int) j nm l v pn x) ((x.drop j).all cleanB && b)
  | 0, j, h => by
    rw [List.drop_eq_nil_of_le (by omega), List.all_nil, Bool.true_and]
    exact Ev.step (fun k => by simp only [trystref08_Formed.l2]; rw [if_neg (by omega), wrapS i _ hil (by omega)]) hb
  | n + 1, j, h => by
    have hjl : j < x.length := by omega
    rw [List.drop_eq_getElem_cons hjl, List.all_cons]
    refine Ev.step (f := fun k => (trystref08_Clean.f k x[j] true).bind fun t => if t = 0 then trystref08_Formed.l2 k (l.length : Int) (i : Int) (x.length : Int) ((j + 1 : Nat) : Int) nm l v pn x else some false) (fun k => by simp only [trystref08_Formed.l2]; rw [if_pos (by omega), if_pos (by omega), if_pos (by omega), rdS x j hjl, wrapS j _ hjl (by omega)]) ?_
    refine Ev.bind (refClean _ _ (hs _ (List.getElem_mem hjl))) ?_
    have ih := refF2_ev nm v pn l x i hil hl hx hs hb n (j + 1) (by omega)
    cases hc : cleanB x[j] with
    | false => exact Ev.congr (f := fun _ => some false) (fun k => by rw [if_neg (cleanB_ne hc)]) (Ev.now _)
    | true => rw [Bool.true_and]; exact Ev.congr (fun k => by rw [if_pos (of_decide_eq_true hc)]) ih
theorem refF1_ev (nm v pn : ByteArray) (l : List RP) (x : List ByteArray) (i : Nat) (hil : i < l.length) (hl : l.length ≤ 60) (hx : x.length ≤ 60) (hs : ∀ z ∈ x, z.size ≤ 140737488351232) {b : Bool} (hb : Ev (fun k => trystref08_Formed.l0 k (l.length : Int) ((i + 1 : Nat) : Int) nm l v) b) :
    ∀ (n j : Nat), j + n = i → Ev (fun k => trystref08_Formed.l1 k (l.length : Int) (i : Int) (i : Int) j nm l v pn x) (!((((l.take i).drop j).map toP).any (hasN pn)) && (x.all cleanB && b))
  | 0, j, h => by
    rw [List.drop_eq_nil_of_le (by rw [List.length_take]; omega), List.map_nil, List.any_nil, Bool.not_false, Bool.true_and]
    have := refF2_ev nm v pn l x i hil hl hx hs hb x.length 0 (by omega)
    rw [List.drop_zero] at this
    exact Ev.step (fun k => by simp only [trystref08_Formed.l1]; rw [if_neg (by omega)]; rfl) this
  | n + 1, j, h => by
    have hjl : j < l.length := by omega
    have hjt : j < (l.take i).length := by rw [List.length_take]; omega
    rw [List.drop_eq_getElem_cons hjt, List.map_cons, List.any_cons, List.getElem_take]
    have ih := refF1_ev nm v pn l x i hil hl hx hs hb n (j + 1) (by omega)
    by_cases hc : l[j].f0 = pn
    · have hh : hasN pn (toP l[j]) = true := decide_eq_true hc
      rw [hh, Bool.true_or, Bool.not_true, Bool.false_and]
      exact Ev.step (f := fun _ => some false) (fun k => by simp only [trystref08_Formed.l1]; rw [if_pos (by omega), if_pos (by omega), if_pos (by omega), rdR l j hjl, if_pos (by rw [hc])]) (Ev.now _)
    · have hh : hasN pn (toP l[j]) = false := decide_eq_false hc
      rw [hh, Bool.false_or]
      exact Ev.step (fun k => by simp only [trystref08_Formed.l1]; rw [if_pos (by omega), if_pos (by omega), if_pos (by omega), rdR l j hjl, if_neg (fun e => hc (toList_ba.1 e)), wrapS j _ hjl (by omega)]) ih
theorem refF_ev (nm v : ByteArray) (l : List RP) (hl : l.length ≤ 60) (hs : ∀ p ∈ l, ParB' (toP p)) : ∀ (n i : Nat), i + n = l.length → Ev (fun k => trystref08_Formed.l0 k (l.length : Int) i nm l v) (okPs ((l.take i).map toP) ((l.drop i).map toP))
  | 0, i, h => by
    rw [List.drop_eq_nil_of_le (by omega)]
    exact Ev.step (f := fun _ => some true) (fun k => by simp only [trystref08_Formed.l0]; rw [if_neg (by omega)]) (Ev.now _)
  | n + 1, i, h => by
    have hil : i < l.length := by omega
    have hp := hs _ (List.getElem_mem hil)
    have ih := refF_ev nm v l hl hs n (i + 1) (by omega)
    rw [List.take_succ_eq_append_getElem hil, List.map_append, List.map_cons, List.map_nil] at ih
    rw [List.drop_eq_getElem_cons hil, List.map_cons, okPs]
    show Ev _ (parR l[i].f0 l[i].f1 && _)
    have hno : Ev (fun k => trystref08_Formed.j2 k (i : Int) (l.length : Int) (i : Int) true nm l v l[i].f0 l[i].f1) false := Ev.step (f := fun _ => some false) (fun k => by simp only [trystref08_Formed.j2]; rfl) (Ev.now _)
    refine Ev.step (f := fun k => (trystref08_Name.f k l[i].f0).bind fun t => if t = true then (if (l[i].f1.length : Int) < 1 then trystref08_Formed.j2 k (i : Int) (l.length : Int) (i : Int) true nm l v l[i].f0 l[i].f1 else trystref08_Formed.j2 k (i : Int) (l.length : Int) (i : Int) (decide ((l[i].f1.length : Int) > 60)) nm l v l[i].f0 l[i].f1) else trystref08_Formed.j2 k (i : Int) (l.length : Int) (i : Int) true nm l v l[i].f0 l[i].f1) (fun k => by
      simp only [trystref08_Formed.l0]
      rw [if_pos (by omega), if_pos (by omega), if_pos (by omega), rdR l i hil]) ?_
    refine Ev.bind (refName _ hp.1) ?_
    unfold parR
    cases nameR l[i].f0 with
    | false => exact Ev.congr (fun k => by rw [if_neg (by simp)]) hno
    | true =>
      by_cases h1 : 1 ≤ l[i].f1.length
      · by_cases h2 : l[i].f1.length ≤ 60
        · rw [decide_eq_true h1, decide_eq_true h2]
          have e : decide ((l[i].f1.length : Int) > 60) = false := decide_eq_false (by omega)
          refine Ev.congr (f := fun k => trystref08_Formed.j2 k (i : Int) (l.length : Int) (i : Int) false nm l v l[i].f0 l[i].f1) (fun k => by rw [if_pos rfl, if_neg (by omega), e]) ?_
          have := refF1_ev nm v l[i].f0 l l[i].f1 i hil hl h2 hp.2 ih i 0 (by omega)
          rw [List.drop_zero] at this
          have e2 : (true && (true && (true && l[i].f1.all cleanB)) && (!(List.map toP (l.take i)).any (hasN (toP l[i]).f0) && okPs (List.map toP (l.take i) ++ [toP l[i]]) (List.map toP (l.drop (i + 1))))) = (!((l.take i).map toP).any (hasN l[i].f0) && (l[i].f1.all cleanB && okPs (List.map toP (l.take i) ++ [toP l[i]]) (List.map toP (l.drop (i + 1))))) := by
            show (_ && (!((l.take i).map toP).any (hasN l[i].f0) && _)) = _
            cases ((l.take i).map toP).any (hasN l[i].f0) <;> cases l[i].f1.all cleanB <;> simp
          rw [e2]
          exact Ev.step (fun k => by simp only [trystref08_Formed.j2]; rfl) this
        · rw [decide_eq_true h1, decide_eq_false h2]
          have e : decide ((l[i].f1.length : Int) > 60) = true := decide_eq_true (by omega)
          exact Ev.congr (fun k => by rw [if_pos rfl, if_neg (by omega), e]) hno
      · rw [decide_eq_false h1]
        exact Ev.congr (fun k => by rw [if_pos rfl, if_pos (by omega)]) hno
theorem refF (nm v : ByteArray) (l : List RP) (hn : nm.size ≤ 140737488351232) (hv : v.size ≤ 140737488351232) (hs : ∀ p ∈ l, ParB' (toP p)) : Ev (fun k => trystref08_Formed.f k nm l v) (formR nm (l.map toP) v) := by
  have hno : Ev (fun k => trystref08_Formed.j0 k true nm l v) false := Ev.step (f := fun _ => some false) (fun k => by simp only [trystref08_Formed.j0]; rfl) (Ev.now _)
  refine Ev.bind (refName nm hn) ?_
  unfold formR
  rw [List.length_map]
  cases nameR nm with
  | false => exact Ev.congr (fun k => by rw [if_neg (by simp)]) hno
  | true =>
    by_cases h2 : l.length ≤ 60
    · rw [decide_eq_true h2]
      refine Ev.congr (f := fun k => (trystref08_Clean.f k v false).bind fun t => trystref08_Formed.j0 k (t != 0) nm l v) (fun k => by rw [if_pos rfl, if_neg (by omega)]) ?_
      refine Ev.bind (refClean v false hv) ?_
      by_cases h3 : cleanR false v.data.toList = 0
      · rw [decide_eq_true h3, h3]
        have := refF_ev nm v l h2 hs l.length 0 (by omega)
        rw [List.drop_zero, List.take_zero] at this
        exact Ev.step (fun k => by simp only [trystref08_Formed.j0]; rfl) this
      · rw [decide_eq_false h3]
        have e : (cleanR false v.data.toList != 0) = true := by simpa using h3
        rw [e]; exact hno
    · rw [decide_eq_false h2]
      exact Ev.congr (fun k => by rw [if_pos rfl, if_pos (by omega)]) hno
end Go.Proofs.YtdojmdbaiddkgaaGreatDoor.Pure
end
section
namespace Go.Proofs.YtdojmdbaiddkgaaGreatDoor.Print
open Go.RowKit Go.Proofs.YtdojmdbaiddkgaaGreatDoorW.PrintWords Go.Proofs.YtdojmdbaiddkgaaGreatDoorW.PrintLast
set_option linter.unusedVariables false
set_option linter.unusedSimpArgs false
def trystref08_Param.l0 : Nat → ByteArray → List Int → Bool → Int → Int → Option (ByteArray × Int)
 | 0, _, _, _, _, _ => none
 | k + 1, x0, x5, x6, x14, x15 => if x15 < x14 then (if 0 ≤ x15 then (if x15 < (x0.size : Int) then (if (bt x0 x15) = 94 then ((some (([94, 94] : List Int) : List Int)).bind fun y279 => (if x5.length + y279.length < 140737488355328 then (trystref08_Param.l0 k x0 (x5 ++ y279) x6 x14 (wrap64 (x15 + 1))) else (none))) else (if (bt x0 x15) = 10 then ((some (([94, 110] : List Int) : List Int)).bind fun y285 => (if x5.length + y285.length < 140737488355328 then (trystref08_Param.l0 k x0 (x5 ++ y285) x6 x14 (wrap64 (x15 + 1))) else (none))) else (if (bt x0 x15) = 34 then ((some (([94, 39] : List Int) : List Int)).bind fun y291 => (if x5.length + y291.length < 140737488355328 then (trystref08_Param.l0 k x0 (x5 ++ y291) x6 x14 (wrap64 (x15 + 1))) else (none))) else (if x6 = true then (if x5.length < 140737488355328 then (trystref08_Param.l0 k x0 (x5 ++ [bt x0 x15]) true x14 (wrap64 (x15 + 1))) else (none)) else (if (bt x0 x15) = 58 then (if x5.length < 140737488355328 then (trystref08_Param.l0 k x0 (x5 ++ [bt x0 x15]) true x14 (wrap64 (x15 + 1))) else (none)) else (if (bt x0 x15) = 59 then (if x5.length < 140737488355328 then (trystref08_Param.l0 k x0 (x5 ++ [bt x0 x15]) true x14 (wrap64 (x15 + 1))) else (none)) else (if x5.length < 140737488355328 then (trystref08_Param.l0 k x0 (x5 ++ [bt x0 x15]) ((bt x0 x15) == 44) x14 (wrap64 (x15 + 1))) else (none)))))))) else (none)) else (none)) else (if x6 = true then (if 1 + (strOfNums x5).size ≤ 9223372036854775807 then (if ((⟨#[34]⟩ : ByteArray) ++ (strOfNums x5)).size + 1 ≤ 9223372036854775807 then (some (((⟨#[34]⟩ : ByteArray) ++ (strOfNums x5)) ++ (⟨#[34]⟩ : ByteArray), 0)) else (none)) else (none)) else (some (strOfNums x5, 0)))
def trystref08_Param.f (k : Nat) (a0 : ByteArray) : Option (ByteArray × Int) := (trystref08_Clean.f k a0 true).bind fun t278 => (if t278 = 0 then (trystref08_Param.l0 k a0 ([] : List Int) false (a0.size : Int) 0) else (some ((⟨#[]⟩ : ByteArray), t278)))
set_option maxHeartbeats 8000000 in
set_option maxRecDepth 100000 in
theorem trystref08_Param.calls (k : Nat) (a0 : ByteArray) (r1 : ByteArray) (r2 : Int) (w : World) (hG : GG w) (h : trystref08_Param.f k a0 = some (r1, r2)) :
  Calls Tryz.prog 68 #[.string a0] w fun e w' => e = .returned (.tuple #[.string r1, .int .i64 r2]) ∧ Below w.heap.size w w' := by
 have HB := Aside0.mk (Below.refl w.heap.size w); have H : ((trystref08_Clean.f k a0 true).bind fun t278 => (if t278 = 0 then (trystref08_Param.l0 k a0 ([] : List Int) false (a0.size : Int) 0) else (some ((⟨#[]⟩ : ByteArray), t278)))) = some (r1, r2) := h; clear h; replace H := zO H; obtain ⟨t278, A2, H⟩ := H; replace H := zIe H; rcases H with ⟨-, c3b0, c3b1, H⟩ | ⟨c3, c3b0, c3b1, H⟩
 ·have H' := Aside0.mk H; clear H
  go_enter Tryz.func68, Tryz.ntmps68
  go_wp2_with (first | ((with_reducible refine gate_callee (f := 74) rfl ?_); refine zq 9 Tryz.func74 #[.string a0, .bool true] (trystref08_Clean.calls k a0 true t278 _ zG A2.out) (fun nd => ?_)))
  go_loopg [5, 6, 15] k (fun kq v5 v6 v15 w' => ∃ (x5_1 : List Int) (x6_1 : Bool) (x15_1 : Int), v6 = .bool x6_1 ∧ v15 = .int .i64 x15_1 ∧ Aside0 (trystref08_Param.l0 kq a0 x5_1 x6_1 (a0.size : Int) x15_1 = some (r1, r2)) ∧ Aside0 (kq ≤ k) ∧ Aside0 (Kd.R (Kd.int .u8) 5 w' w.heap.size (fun _ => True) v5 x5_1) ∧ Aside0 (Below w.heap.size w w'))
  case atStart => exact ⟨(([] : List Int)), (false), (0), zS, zS, H', ⟨Nat.le_refl _⟩, ⟨by first | exact Kd.R_nil _ _ _ _ _ | exact Kd.N_nil _ _ _ _ _ | exact Kd.V_nil _ _ _ _ _ | exact Kd.Q_nil _ _ _ _ _ | exact Kd.S_nil _ _ _ _ _⟩, ⟨zB⟩⟩
  case round =>
   clear H'; clear c3b0 c3b1; obtain ⟨x5_1, x6_1, x15_1, rfl, rfl, HA, HK1, HO_5, HB⟩ := hrel
   cases gk with
   | zero => exact absurd HA.out (by simp [trystref08_Param.l0])
   | succ k1 =>
    have H := HA.out; clear HA; simp only [trystref08_Param.l0] at H; replace H := zId H; rcases H with ⟨-, c4b0, H⟩ | ⟨-, c4b0, H⟩
    ·replace H := zJd H; obtain ⟨-, c5b0, H⟩ := H; replace H := zJd H; obtain ⟨-, c6b0, H⟩ := H; replace H := zIe H; rcases H with ⟨-, c8b0, c8b1, H⟩ | ⟨c8, c8b0, c8b1, H⟩
     ·obtain ⟨y279, hy279⟩ : ∃ y_ : List Int, y_ = (([94, 94] : List Int)) := ⟨_, rfl⟩; replace H : (if x5_1.length + y279.length < 140737488355328 then (trystref08_Param.l0 k1 a0 (x5_1 ++ y279) x6_1 (a0.size : Int) (wrap64 (x15_1 + 1))) else (none)) = some (r1, r2) := by first | (rw [hy279]; with_reducible exact H) | (have H2_ := (Option.bind_some _ _).symm.trans H; rw [hy279]; with_reducible exact H2_) | (have H2_ := (Option.bind_some _ _).symm.trans H; with_reducible exact H2_) | with_reducible exact H | (rw [hy279]; exact H) | exact H
      have Ny279 := Aside0.mk hy279; clear hy279; replace H := zJ H; obtain ⟨c9, H⟩ := H; have LMc9 := Aside0.mk c9; clear c9; obtain ⟨y282, hy282⟩ : ∃ y_ : List Int, y_ = (x5_1 ++ y279) := ⟨_, rfl⟩; replace H : (trystref08_Param.l0 k1 a0 y282 x6_1 (a0.size : Int) (wrap64 (x15_1 + 1))) = some (r1, r2) := by first | (rw [hy282]; with_reducible exact H) | (have H2_ := (Option.bind_some _ _).symm.trans H; rw [hy282]; with_reducible exact H2_) | (have H2_ := (Option.bind_some _ _).symm.trans H; with_reducible exact H2_) | with_reducible exact H | (rw [hy282]; exact H) | exact H
      have Ny282 := Aside0.mk hy282; clear hy282; have H' := Aside0.mk H; clear H; have p7 := zP (0 ≤ (x15_1 : Int)); have q7 := zP (x15_1 < (a0.size : Int)); have hx7 := bt_at a0 x15_1
      go_wp2_with (first | ((with_reducible refine gate_dst (N := 49) rfl ?_); refine Kd.R_lit (Kd.int .u8) _ 5 ?hg (N := 49) ?hd (xs := ([94, 94] : List Int)) (inner := [.int .u8 94, .int .u8 94]) (ok := fun _ => True) (okp := fun _ => True) ?hr ?hp (fun _ hk => hk) trivial (Below.refl _ _) (Nat.le_refl _) (by simp) ?_; (case hd => rfl); (case hg => rfl); (case hr => first | (go_simp; done) | (go_simp; rfl)); (case hp => exact (Reps.one (show Kd.M (Kd.int .u8) _ _ _ 94 [.int .u8 94] from rfl) (Reps.one (show Kd.M (Kd.int .u8) _ _ _ 94 [.int .u8 94] from rfl) (Reps.none _ _)))); intro v280 w10 ho11 hb hg_ hnew_; clear hg_ hnew_; (first | rw [← Ny279.out] at ho11 | (simp only [Int.reduceToNat] at ho11; rw [← Ny279.out] at ho11)); replace HO281 := Aside0.mk (Kd.R_lower (Kd.R_new' ho11 (Kd.R_lt (Kd.R_below HO_5.out zX))) (below_size zB)); replace HO_5 := Aside0.mk (Kd.R_elder' (Kd.R_below HO_5.out zX) (Kd.R_base ho11) hb); replace HB := zw hb; clear hb ho11; obtain ⟨Ao13, co13, eo13⟩ := Kd.R_slice HO281.out; subst eo13) | ((with_reducible refine gate_builtin (b := .append) (xs := #[.tmp 48, .tmp 49]) rfl ?_); at_builtin; refine Kd.R_append_rows (Kd.int .u8) (w0 := w) w.heap.size rfl (.tmp 48) (.tmp 49) 82 5 (.int .u8 0) 1 rfl Tryz.underlying82 info5 rfl (by decide) (by omega) u5 x5_1 y279 _ _ _ (fun _ => True) (fun _ => False) rfl rfl ?aO ?aR (fun _ _ h => h) (fun _ h => h.elim) ?aF ?aB ?aS ?aL ?_; (case aR => repeat (first | exact (Kd.R_reads' HO281.out).2.2 | (with_reducible refine Kd.C_alloc ?_ _) | (with_reducible refine Kd.C_drewN ?_ _) | (with_reducible refine Kd.C_drew ?_))); (case aB => exact zB); (case aF => exact (fun _ _ => trivial)); (case aO => exact (by (with_reducible repeat (first | apply Kd.R_alloc | apply Kd.R_drewN | apply Kd.R_drew)); exact Kd.R_mono HO_5.out (fun _ hk => trivial))); (case aS => exact (below_size zB)); (case aL => have := LMc9.out; omega); intro v283 w12 ho hb hg hat; rw [← Ny282.out] at ho; have n0_ := Aside0.mk (hb); have n1_ := Aside0.mk (ho); clear HB; clear HO_5; clear HO281; have HB := n0_; have HO284 := n1_; clear n0_ n1_; clear ho hb hg hat))
      go_roundg k1
      case measure => have := HK1.out; omega
      case rel => exact ⟨(y282), (x6_1), (wrap64 (x15_1 + 1)), zS, zS, H', ⟨by have := HK1.out; omega⟩, ⟨Kd.R_below HO284.out zX⟩, ⟨zB⟩⟩
     ·replace H := zIe H; rcases H with ⟨-, c14b0, c14b1, H⟩ | ⟨c14, c14b0, c14b1, H⟩
      ·obtain ⟨y285, hy285⟩ : ∃ y_ : List Int, y_ = (([94, 110] : List Int)) := ⟨_, rfl⟩; replace H : (if x5_1.length + y285.length < 140737488355328 then (trystref08_Param.l0 k1 a0 (x5_1 ++ y285) x6_1 (a0.size : Int) (wrap64 (x15_1 + 1))) else (none)) = some (r1, r2) := by first | (rw [hy285]; with_reducible exact H) | (have H2_ := (Option.bind_some _ _).symm.trans H; rw [hy285]; with_reducible exact H2_) | (have H2_ := (Option.bind_some _ _).symm.trans H; with_reducible exact H2_) | with_reducible exact H | (rw [hy285]; exact H) | exact H
       have Ny285 := Aside0.mk hy285; clear hy285; replace H := zJ H; obtain ⟨c15, H⟩ := H; have LMc15 := Aside0.mk c15; clear c15; obtain ⟨y288, hy288⟩ : ∃ y_ : List Int, y_ = (x5_1 ++ y285) := ⟨_, rfl⟩; replace H : (trystref08_Param.l0 k1 a0 y288 x6_1 (a0.size : Int) (wrap64 (x15_1 + 1))) = some (r1, r2) := by first | (rw [hy288]; with_reducible exact H) | (have H2_ := (Option.bind_some _ _).symm.trans H; rw [hy288]; with_reducible exact H2_) | (have H2_ := (Option.bind_some _ _).symm.trans H; with_reducible exact H2_) | with_reducible exact H | (rw [hy288]; exact H) | exact H
       have Ny288 := Aside0.mk hy288; clear hy288; have H' := Aside0.mk H; clear H; have p7 := zP (0 ≤ (x15_1 : Int)); have q7 := zP (x15_1 < (a0.size : Int)); have hx7 := bt_at a0 x15_1
       go_wp2_with (first | ((with_reducible refine gate_dst (N := 54) rfl ?_); refine Kd.R_lit (Kd.int .u8) _ 5 ?hg (N := 54) ?hd (xs := ([94, 110] : List Int)) (inner := [.int .u8 94, .int .u8 110]) (ok := fun _ => True) (okp := fun _ => True) ?hr ?hp (fun _ hk => hk) trivial (Below.refl _ _) (Nat.le_refl _) (by simp) ?_; (case hd => rfl); (case hg => rfl); (case hr => first | (go_simp; done) | (go_simp; rfl)); (case hp => exact (Reps.one (show Kd.M (Kd.int .u8) _ _ _ 94 [.int .u8 94] from rfl) (Reps.one (show Kd.M (Kd.int .u8) _ _ _ 110 [.int .u8 110] from rfl) (Reps.none _ _)))); intro v286 w16 ho17 hb hg_ hnew_; clear hg_ hnew_; (first | rw [← Ny285.out] at ho17 | (simp only [Int.reduceToNat] at ho17; rw [← Ny285.out] at ho17)); replace HO287 := Aside0.mk (Kd.R_lower (Kd.R_new' ho17 (Kd.R_lt (Kd.R_below HO_5.out zX))) (below_size zB)); replace HO_5 := Aside0.mk (Kd.R_elder' (Kd.R_below HO_5.out zX) (Kd.R_base ho17) hb); replace HB := zw hb; clear hb ho17; obtain ⟨Ao19, co19, eo19⟩ := Kd.R_slice HO287.out; subst eo19) | ((with_reducible refine gate_builtin (b := .append) (xs := #[.tmp 53, .tmp 54]) rfl ?_); at_builtin; refine Kd.R_append_rows (Kd.int .u8) (w0 := w) w.heap.size rfl (.tmp 53) (.tmp 54) 82 5 (.int .u8 0) 1 rfl Tryz.underlying82 info5 rfl (by decide) (by omega) u5 x5_1 y285 _ _ _ (fun _ => True) (fun _ => False) rfl rfl ?aO ?aR (fun _ _ h => h) (fun _ h => h.elim) ?aF ?aB ?aS ?aL ?_; (case aR => repeat (first | exact (Kd.R_reads' HO287.out).2.2 | (with_reducible refine Kd.C_alloc ?_ _) | (with_reducible refine Kd.C_drewN ?_ _) | (with_reducible refine Kd.C_drew ?_))); (case aB => exact zB); (case aF => exact (fun _ _ => trivial)); (case aO => exact (by (with_reducible repeat (first | apply Kd.R_alloc | apply Kd.R_drewN | apply Kd.R_drew)); exact Kd.R_mono HO_5.out (fun _ hk => trivial))); (case aS => exact (below_size zB)); (case aL => have := LMc15.out; omega); intro v289 w18 ho hb hg hat; rw [← Ny288.out] at ho; have n0_ := Aside0.mk (hb); have n1_ := Aside0.mk (ho); clear HB; clear HO_5; clear HO287; have HB := n0_; have HO290 := n1_; clear n0_ n1_; clear ho hb hg hat))
       go_roundg k1
       case measure => have := HK1.out; omega
       case rel => exact ⟨(y288), (x6_1), (wrap64 (x15_1 + 1)), zS, zS, H', ⟨by have := HK1.out; omega⟩, ⟨Kd.R_below HO290.out zX⟩, ⟨zB⟩⟩
      ·replace H := zIe H; rcases H with ⟨-, c20b0, c20b1, H⟩ | ⟨c20, c20b0, c20b1, H⟩
       ·obtain ⟨y291, hy291⟩ : ∃ y_ : List Int, y_ = (([94, 39] : List Int)) := ⟨_, rfl⟩; replace H : (if x5_1.length + y291.length < 140737488355328 then (trystref08_Param.l0 k1 a0 (x5_1 ++ y291) x6_1 (a0.size : Int) (wrap64 (x15_1 + 1))) else (none)) = some (r1, r2) := by first | (rw [hy291]; with_reducible exact H) | (have H2_ := (Option.bind_some _ _).symm.trans H; rw [hy291]; with_reducible exact H2_) | (have H2_ := (Option.bind_some _ _).symm.trans H; with_reducible exact H2_) | with_reducible exact H | (rw [hy291]; exact H) | exact H
        have Ny291 := Aside0.mk hy291; clear hy291; replace H := zJ H; obtain ⟨c21, H⟩ := H; have LMc21 := Aside0.mk c21; clear c21; obtain ⟨y294, hy294⟩ : ∃ y_ : List Int, y_ = (x5_1 ++ y291) := ⟨_, rfl⟩; replace H : (trystref08_Param.l0 k1 a0 y294 x6_1 (a0.size : Int) (wrap64 (x15_1 + 1))) = some (r1, r2) := by first | (rw [hy294]; with_reducible exact H) | (have H2_ := (Option.bind_some _ _).symm.trans H; rw [hy294]; with_reducible exact H2_) | (have H2_ := (Option.bind_some _ _).symm.trans H; with_reducible exact H2_) | with_reducible exact H | (rw [hy294]; exact H) | exact H
        have Ny294 := Aside0.mk hy294; clear hy294; have H' := Aside0.mk H; clear H; have p7 := zP (0 ≤ (x15_1 : Int)); have q7 := zP (x15_1 < (a0.size : Int)); have hx7 := bt_at a0 x15_1
        go_wp2_with (first | ((with_reducible refine gate_dst (N := 59) rfl ?_); refine Kd.R_lit (Kd.int .u8) _ 5 ?hg (N := 59) ?hd (xs := ([94, 39] : List Int)) (inner := [.int .u8 94, .int .u8 39]) (ok := fun _ => True) (okp := fun _ => True) ?hr ?hp (fun _ hk => hk) trivial (Below.refl _ _) (Nat.le_refl _) (by simp) ?_; (case hd => rfl); (case hg => rfl); (case hr => first | (go_simp; done) | (go_simp; rfl)); (case hp => exact (Reps.one (show Kd.M (Kd.int .u8) _ _ _ 94 [.int .u8 94] from rfl) (Reps.one (show Kd.M (Kd.int .u8) _ _ _ 39 [.int .u8 39] from rfl) (Reps.none _ _)))); intro v292 w22 ho23 hb hg_ hnew_; clear hg_ hnew_; (first | rw [← Ny291.out] at ho23 | (simp only [Int.reduceToNat] at ho23; rw [← Ny291.out] at ho23)); replace HO293 := Aside0.mk (Kd.R_lower (Kd.R_new' ho23 (Kd.R_lt (Kd.R_below HO_5.out zX))) (below_size zB)); replace HO_5 := Aside0.mk (Kd.R_elder' (Kd.R_below HO_5.out zX) (Kd.R_base ho23) hb); replace HB := zw hb; clear hb ho23; obtain ⟨Ao25, co25, eo25⟩ := Kd.R_slice HO293.out; subst eo25) | ((with_reducible refine gate_builtin (b := .append) (xs := #[.tmp 58, .tmp 59]) rfl ?_); at_builtin; refine Kd.R_append_rows (Kd.int .u8) (w0 := w) w.heap.size rfl (.tmp 58) (.tmp 59) 82 5 (.int .u8 0) 1 rfl Tryz.underlying82 info5 rfl (by decide) (by omega) u5 x5_1 y291 _ _ _ (fun _ => True) (fun _ => False) rfl rfl ?aO ?aR (fun _ _ h => h) (fun _ h => h.elim) ?aF ?aB ?aS ?aL ?_; (case aR => repeat (first | exact (Kd.R_reads' HO293.out).2.2 | (with_reducible refine Kd.C_alloc ?_ _) | (with_reducible refine Kd.C_drewN ?_ _) | (with_reducible refine Kd.C_drew ?_))); (case aB => exact zB); (case aF => exact (fun _ _ => trivial)); (case aO => exact (by (with_reducible repeat (first | apply Kd.R_alloc | apply Kd.R_drewN | apply Kd.R_drew)); exact Kd.R_mono HO_5.out (fun _ hk => trivial))); (case aS => exact (below_size zB)); (case aL => have := LMc21.out; omega); intro v295 w24 ho hb hg hat; rw [← Ny294.out] at ho; have n0_ := Aside0.mk (hb); have n1_ := Aside0.mk (ho); clear HB; clear HO_5; clear HO293; have HB := n0_; have HO296 := n1_; clear n0_ n1_; clear ho hb hg hat))
        go_roundg k1
        case measure => have := HK1.out; omega
        case rel => exact ⟨(y294), (x6_1), (wrap64 (x15_1 + 1)), zS, zS, H', ⟨by have := HK1.out; omega⟩, ⟨Kd.R_below HO296.out zX⟩, ⟨zB⟩⟩
       ·replace H := zIb H; rcases H with ⟨rfl, H⟩ | ⟨rfl, H⟩
        ·replace H := zJ H; obtain ⟨c28, H⟩ := H; have LMc28 := Aside0.mk c28; clear c28; obtain ⟨y297, hy297⟩ : ∃ y_ : List Int, y_ = (x5_1 ++ [bt a0 x15_1]) := ⟨_, rfl⟩; replace H : (trystref08_Param.l0 k1 a0 y297 true (a0.size : Int) (wrap64 (x15_1 + 1))) = some (r1, r2) := by first | (rw [hy297]; with_reducible exact H) | (have H2_ := (Option.bind_some _ _).symm.trans H; rw [hy297]; with_reducible exact H2_) | (have H2_ := (Option.bind_some _ _).symm.trans H; with_reducible exact H2_) | with_reducible exact H | (rw [hy297]; exact H) | exact H
         have Ny297 := Aside0.mk hy297; clear hy297; have H' := Aside0.mk H; clear H; have p7 := zP (0 ≤ (x15_1 : Int)); have q7 := zP (x15_1 < (a0.size : Int)); have hx7 := bt_at a0 x15_1; have p27 := zP (0 ≤ (x15_1 : Int)); have q27 := zP (x15_1 < (a0.size : Int)); have hx27 := bt_at a0 x15_1
         go_wp2_with (first | ((with_reducible refine gate_builtin (b := .append) (xs := #[.tmp 40, .tmp 44]) rfl ?_); at_builtin; refine Kd.R_append (Kd.int .u8) (w0 := w) w.heap.size rfl (.tmp 40) (.tmp 44) 82 5 (.int .u8 0) 1 rfl Tryz.underlying82 info5 rfl (by decide) (by omega) u5 x5_1 (bt a0 x15_1) [.int .u8 (bt a0 x15_1)] (fun _ => True) (fun _ => False) rfl rfl ?aP (fun _ hk => hk.elim) ?aF ?aO ?aB ?aS ?aL ?_; (case aP => exact rfl); (case aB => exact zB); (case aF => exact (fun _ _ => trivial)); (case aO => exact (Kd.R_below HO_5.out zX)); (case aS => exact (below_size zB)); (case aL => have := LMc28.out; omega); intro v298 w29 ho hb hg hat; rw [← Ny297.out] at ho; have n0_ := Aside0.mk (hb); have n1_ := Aside0.mk (ho); clear HB; clear HO_5; have HB := n0_; have HO299 := n1_; clear n0_ n1_; clear ho hb hg hat))
         go_roundg k1
         case measure => have := HK1.out; omega
         case rel => exact ⟨(y297), (true), (wrap64 (x15_1 + 1)), zS, zS, H', ⟨by have := HK1.out; omega⟩, ⟨Kd.R_below HO299.out zX⟩, ⟨zB⟩⟩
        ·replace H := zIe H; rcases H with ⟨-, c31b0, c31b1, H⟩ | ⟨c31, c31b0, c31b1, H⟩
         ·replace H := zJ H; obtain ⟨c33, H⟩ := H; have LMc33 := Aside0.mk c33; clear c33; obtain ⟨y300, hy300⟩ : ∃ y_ : List Int, y_ = (x5_1 ++ [bt a0 x15_1]) := ⟨_, rfl⟩; replace H : (trystref08_Param.l0 k1 a0 y300 true (a0.size : Int) (wrap64 (x15_1 + 1))) = some (r1, r2) := by first | (rw [hy300]; with_reducible exact H) | (have H2_ := (Option.bind_some _ _).symm.trans H; rw [hy300]; with_reducible exact H2_) | (have H2_ := (Option.bind_some _ _).symm.trans H; with_reducible exact H2_) | with_reducible exact H | (rw [hy300]; exact H) | exact H
          have Ny300 := Aside0.mk hy300; clear hy300; have H' := Aside0.mk H; clear H; have p7 := zP (0 ≤ (x15_1 : Int)); have q7 := zP (x15_1 < (a0.size : Int)); have hx7 := bt_at a0 x15_1; have p30 := zP (0 ≤ (x15_1 : Int)); have q30 := zP (x15_1 < (a0.size : Int)); have hx30 := bt_at a0 x15_1; have p32 := zP (0 ≤ (x15_1 : Int)); have q32 := zP (x15_1 < (a0.size : Int)); have hx32 := bt_at a0 x15_1
          go_wp2_with (first | ((with_reducible refine gate_builtin (b := .append) (xs := #[.tmp 40, .tmp 44]) rfl ?_); at_builtin; refine Kd.R_append (Kd.int .u8) (w0 := w) w.heap.size rfl (.tmp 40) (.tmp 44) 82 5 (.int .u8 0) 1 rfl Tryz.underlying82 info5 rfl (by decide) (by omega) u5 x5_1 (bt a0 x15_1) [.int .u8 (bt a0 x15_1)] (fun _ => True) (fun _ => False) rfl rfl ?aP (fun _ hk => hk.elim) ?aF ?aO ?aB ?aS ?aL ?_; (case aP => exact rfl); (case aB => exact zB); (case aF => exact (fun _ _ => trivial)); (case aO => exact (Kd.R_below HO_5.out zX)); (case aS => exact (below_size zB)); (case aL => have := LMc33.out; omega); intro v301 w34 ho hb hg hat; rw [← Ny300.out] at ho; have n0_ := Aside0.mk (hb); have n1_ := Aside0.mk (ho); clear HB; clear HO_5; have HB := n0_; have HO302 := n1_; clear n0_ n1_; clear ho hb hg hat))
          go_roundg k1
          case measure => have := HK1.out; omega
          case rel => exact ⟨(y300), (true), (wrap64 (x15_1 + 1)), zS, zS, H', ⟨by have := HK1.out; omega⟩, ⟨Kd.R_below HO302.out zX⟩, ⟨zB⟩⟩
         ·replace H := zIe H; rcases H with ⟨-, c36b0, c36b1, H⟩ | ⟨c36, c36b0, c36b1, H⟩
          ·replace H := zJ H; obtain ⟨c38, H⟩ := H; have LMc38 := Aside0.mk c38; clear c38; obtain ⟨y303, hy303⟩ : ∃ y_ : List Int, y_ = (x5_1 ++ [bt a0 x15_1]) := ⟨_, rfl⟩; replace H : (trystref08_Param.l0 k1 a0 y303 true (a0.size : Int) (wrap64 (x15_1 + 1))) = some (r1, r2) := by first | (rw [hy303]; with_reducible exact H) | (have H2_ := (Option.bind_some _ _).symm.trans H; rw [hy303]; with_reducible exact H2_) | (have H2_ := (Option.bind_some _ _).symm.trans H; with_reducible exact H2_) | with_reducible exact H | (rw [hy303]; exact H) | exact H
           have Ny303 := Aside0.mk hy303; clear hy303; have H' := Aside0.mk H; clear H; have p7 := zP (0 ≤ (x15_1 : Int)); have q7 := zP (x15_1 < (a0.size : Int)); have hx7 := bt_at a0 x15_1; have p30 := zP (0 ≤ (x15_1 : Int)); have q30 := zP (x15_1 < (a0.size : Int)); have hx30 := bt_at a0 x15_1; have p35 := zP (0 ≤ (x15_1 : Int)); have q35 := zP (x15_1 < (a0.size : Int)); have hx35 := bt_at a0 x15_1; have p37 := zP (0 ≤ (x15_1 : Int)); have q37 := zP (x15_1 < (a0.size : Int)); have hx37 := bt_at a0 x15_1
           go_wp2_with (first | ((with_reducible refine gate_builtin (b := .append) (xs := #[.tmp 40, .tmp 44]) rfl ?_); at_builtin; refine Kd.R_append (Kd.int .u8) (w0 := w) w.heap.size rfl (.tmp 40) (.tmp 44) 82 5 (.int .u8 0) 1 rfl Tryz.underlying82 info5 rfl (by decide) (by omega) u5 x5_1 (bt a0 x15_1) [.int .u8 (bt a0 x15_1)] (fun _ => True) (fun _ => False) rfl rfl ?aP (fun _ hk => hk.elim) ?aF ?aO ?aB ?aS ?aL ?_; (case aP => exact rfl); (case aB => exact zB); (case aF => exact (fun _ _ => trivial)); (case aO => exact (Kd.R_below HO_5.out zX)); (case aS => exact (below_size zB)); (case aL => have := LMc38.out; omega); intro v304 w39 ho hb hg hat; rw [← Ny303.out] at ho; have n0_ := Aside0.mk (hb); have n1_ := Aside0.mk (ho); clear HB; clear HO_5; have HB := n0_; have HO305 := n1_; clear n0_ n1_; clear ho hb hg hat))
           go_roundg k1
           case measure => have := HK1.out; omega
           case rel => exact ⟨(y303), (true), (wrap64 (x15_1 + 1)), zS, zS, H', ⟨by have := HK1.out; omega⟩, ⟨Kd.R_below HO305.out zX⟩, ⟨zB⟩⟩
          ·replace H := zJ H; obtain ⟨c42, H⟩ := H; have LMc42 := Aside0.mk c42; clear c42; obtain ⟨y306, hy306⟩ : ∃ y_ : List Int, y_ = (x5_1 ++ [bt a0 x15_1]) := ⟨_, rfl⟩; replace H : (trystref08_Param.l0 k1 a0 y306 ((bt a0 x15_1) == 44) (a0.size : Int) (wrap64 (x15_1 + 1))) = some (r1, r2) := by first | (rw [hy306]; with_reducible exact H) | (have H2_ := (Option.bind_some _ _).symm.trans H; rw [hy306]; with_reducible exact H2_) | (have H2_ := (Option.bind_some _ _).symm.trans H; with_reducible exact H2_) | with_reducible exact H | (rw [hy306]; exact H) | exact H
           have Ny306 := Aside0.mk hy306; clear hy306; have H' := Aside0.mk H; clear H; have p7 := zP (0 ≤ (x15_1 : Int)); have q7 := zP (x15_1 < (a0.size : Int)); have hx7 := bt_at a0 x15_1; have p30 := zP (0 ≤ (x15_1 : Int)); have q30 := zP (x15_1 < (a0.size : Int)); have hx30 := bt_at a0 x15_1; have p35 := zP (0 ≤ (x15_1 : Int)); have q35 := zP (x15_1 < (a0.size : Int)); have hx35 := bt_at a0 x15_1; have p40 := zP (0 ≤ (x15_1 : Int)); have q40 := zP (x15_1 < (a0.size : Int)); have hx40 := bt_at a0 x15_1; have p41 := zP (0 ≤ (x15_1 : Int)); have q41 := zP (x15_1 < (a0.size : Int)); have hx41 := bt_at a0 x15_1
           go_wp2_with (first | ((with_reducible refine gate_builtin (b := .append) (xs := #[.tmp 40, .tmp 44]) rfl ?_); at_builtin; refine Kd.R_append (Kd.int .u8) (w0 := w) w.heap.size rfl (.tmp 40) (.tmp 44) 82 5 (.int .u8 0) 1 rfl Tryz.underlying82 info5 rfl (by decide) (by omega) u5 x5_1 (bt a0 x15_1) [.int .u8 (bt a0 x15_1)] (fun _ => True) (fun _ => False) rfl rfl ?aP (fun _ hk => hk.elim) ?aF ?aO ?aB ?aS ?aL ?_; (case aP => exact rfl); (case aB => exact zB); (case aF => exact (fun _ _ => trivial)); (case aO => exact (Kd.R_below HO_5.out zX)); (case aS => exact (below_size zB)); (case aL => have := LMc42.out; omega); intro v307 w43 ho hb hg hat; rw [← Ny306.out] at ho; have n0_ := Aside0.mk (hb); have n1_ := Aside0.mk (ho); clear HB; clear HO_5; have HB := n0_; have HO308 := n1_; clear n0_ n1_; clear ho hb hg hat))
           go_roundg k1
           case measure => have := HK1.out; omega
           case rel => exact ⟨(y306), (((bt a0 x15_1) == 44)), (wrap64 (x15_1 + 1)), zS, zS, H', ⟨by have := HK1.out; omega⟩, ⟨Kd.R_below HO308.out zX⟩, ⟨zB⟩⟩
    ·replace H := zIb H; rcases H with ⟨rfl, H⟩ | ⟨rfl, H⟩
     ·replace H := zJ H; obtain ⟨c45, H⟩ := H; have c45b0 := eq_true c45; have c45b1 : decide (1 + (strOfNums x5_1).size ≤ 9223372036854775807) = true := decide_eq_true c45
      try have c45b2 : (9223372036854775807 < 1 + (strOfNums x5_1).size) = False := eq_false (Nat.not_lt.2 c45)
      replace H := zJ H; obtain ⟨c46, H⟩ := H; have c46b0 := eq_true c46; have c46b1 : decide (((⟨#[34]⟩ : ByteArray) ++ (strOfNums x5_1)).size + 1 ≤ 9223372036854775807) = true := decide_eq_true c46
      try have c46b2 : (9223372036854775807 < ((⟨#[34]⟩ : ByteArray) ++ (strOfNums x5_1)).size + 1) = False := eq_false (Nat.not_lt.2 c46)
      have c46b3 : (9223372036854775807 < 1 + (strOfNums x5_1).size + 1) = False := by
       have h_ : ((⟨#[34]⟩ : ByteArray) ++ (strOfNums x5_1)).size = 1 + (strOfNums x5_1).size := by rw [ByteArray.size_append]; rfl
       rw [← h_]; exact eq_false (Nat.not_lt.2 c46)
      simp only [Option.some.injEq, Prod.mk.injEq] at H; obtain ⟨rfl, rfl⟩ := H; have hcv47 := own_string (P := Tryz.prog) Tryz.underlying82 Tryz.underlying5 Tryz.underlying9 (Kd.own_of_R HO_5.out); go_wp2; go_ret2; exact ⟨zE, zB⟩
     ·simp only [Option.some.injEq, Prod.mk.injEq] at H; obtain ⟨rfl, rfl⟩ := H; have hcv48 := own_string (P := Tryz.prog) Tryz.underlying82 Tryz.underlying5 Tryz.underlying9 (Kd.own_of_R HO_5.out); go_wp2; go_ret2; exact ⟨zE, zB⟩
 ·simp only [Option.some.injEq, Prod.mk.injEq] at H; obtain ⟨rfl, rfl⟩ := H
  go_enter Tryz.func68, Tryz.ntmps68
  go_wp2_with (first | ((with_reducible refine gate_callee (f := 74) rfl ?_); refine zq 9 Tryz.func74 #[.string a0, .bool true] (trystref08_Clean.calls k a0 true t278 _ zG A2.out) (fun nd => ?_)))
  go_ret2; exact ⟨zE, zB⟩
mutual
def trystref08_Print.l0 : Nat → ByteArray → Int → Int → ByteArray → List (S76) → ByteArray → Option (ByteArray × Int)
 | 0, _, _, _, _, _, _ => none
 | k + 1, x4, x16, x17, x310000, x310001, x310002 => if x17 < x16 then (if x4.size + 1 ≤ 9223372036854775807 then (if 0 ≤ x17 then (if x17 < (x310001.length : Int) then (if (x4 ++ (⟨#[59]⟩ : ByteArray)).size + ((rd_T76 x310001 x17).f0).size ≤ 9223372036854775807 then (trystref08_Print.l1 k ((x4 ++ (⟨#[59]⟩ : ByteArray)) ++ ((rd_T76 x310001 x17).f0)) x17 x16 x17 (((rd_T76 x310001 x17).f1).length : Int) 0 x310000 x310001 x310002) else (none)) else (none)) else (none)) else (none)) else (if x4.size + 1 ≤ 9223372036854775807 then (if (x4 ++ (⟨#[58]⟩ : ByteArray)).size + x310002.size ≤ 9223372036854775807 then (if (((x4 ++ (⟨#[58]⟩ : ByteArray)) ++ x310002).size : Int) > 2000 then (some ((⟨#[]⟩ : ByteArray), 4)) else (some ((x4 ++ (⟨#[58]⟩ : ByteArray)) ++ x310002, 0))) else (none)) else (none))
def trystref08_Print.l1 : Nat → ByteArray → Int → Int → Int → Int → Int → ByteArray → List (S76) → ByteArray → Option (ByteArray × Int)
 | 0, _, _, _, _, _, _, _, _, _ => none
 | k + 1, x4, x5, x16, x17, x35, x36, x310000, x310001, x310002 => if x36 < x35 then (if 0 ≤ x5 then (if x5 < (x310001.length : Int) then (if 0 ≤ x36 then (if x36 < (((rd_T76 x310001 x5).f1).length : Int) then ((trystref08_Param.f k (rdOf ByteArray.empty ((rd_T76 x310001 x5).f1) x36)).bind fun bt315 => (if x36 = 0 then (if x4.size + 1 ≤ 9223372036854775807 then (if (x4 ++ (⟨#[61]⟩ : ByteArray)).size + bt315.1.size ≤ 9223372036854775807 then (trystref08_Print.l1 k ((x4 ++ (⟨#[61]⟩ : ByteArray)) ++ bt315.1) x5 x16 x17 x35 (wrap64 (x36 + 1)) x310000 x310001 x310002) else (none)) else (none)) else (if x4.size + 1 ≤ 9223372036854775807 then (if (x4 ++ (⟨#[44]⟩ : ByteArray)).size + bt315.1.size ≤ 9223372036854775807 then (trystref08_Print.l1 k ((x4 ++ (⟨#[44]⟩ : ByteArray)) ++ bt315.1) x5 x16 x17 x35 (wrap64 (x36 + 1)) x310000 x310001 x310002) else (none)) else (none)))) else (none)) else (none)) else (none)) else (none)) else (trystref08_Print.l0 k x4 x16 (wrap64 (x17 + 1)) x310000 x310001 x310002)
end
def trystref08_Print.f (k : Nat) (a0_0 : ByteArray) (l0_1 : List (S76)) (a0_2 : ByteArray) : Option (ByteArray × Int) := (trystref08_Formed.f k a0_0 l0_1 a0_2).bind fun t310 => (if t310 = true then (trystref08_Print.l0 k a0_0 (l0_1.length : Int) 0 a0_0 l0_1 a0_2) else (some ((⟨#[]⟩ : ByteArray), 1)))
set_option maxHeartbeats 8000000 in
set_option maxRecDepth 100000 in
theorem trystref08_Print.calls (k : Nat) (a0_0 : ByteArray) (A0_1 : Option Addr) (c0_1 : Nat) (l0_1 : List (S76)) (a0_2 : ByteArray) (r1 : ByteArray) (r2 : Int) (w : World) (hG : GG w) (hr0_1 : Kd.C k76 w A0_1 l0_1.length l0_1) (hc0_1 : l0_1.length ≤ c0_1) (h : trystref08_Print.f k a0_0 l0_1 a0_2 = some (r1, r2)) :
  Calls Tryz.prog 42 #[.agg #[.string a0_0, .slice A0_1 l0_1.length c0_1, .string a0_2]] w fun e w' => e = .returned (.tuple #[.string r1, .int .i64 r2]) ∧ Below w.heap.size w w' := by
 have hu53 := Tryz.underlying53; have HR0_1 := Aside0.mk hr0_1; have HC0_1 := Aside0.mk hc0_1; clear hr0_1 hc0_1; have HB := Aside0.mk (Below.refl w.heap.size w); have H : ((trystref08_Formed.f k a0_0 l0_1 a0_2).bind fun t310 => (if t310 = true then (trystref08_Print.l0 k a0_0 (l0_1.length : Int) 0 a0_0 l0_1 a0_2) else (some ((⟨#[]⟩ : ByteArray), 1)))) = some (r1, r2) := h; clear h; replace H := zO H; obtain ⟨t310, A2, H⟩ := H; replace H := zIb H; rcases H with ⟨rfl, H⟩ | ⟨rfl, H⟩
 ·have H' := Aside0.mk H; clear H
  go_enter Tryz.func42, Tryz.ntmps42
  go_wp2_with (first | ((with_reducible refine gate_dst (N := 1) rfl ?_); refine zbox (N := 1) #[.string a0_0, .slice A0_1 l0_1.length c0_1, .string a0_2] 53 (fun gb309 hg w4 hbox hb => ?_); have n0_ := zw hb; have n1_ := Aside0.mk hbox; have n2_ := zg w hg; have n3_ := zg w hg; clear HB; have HB := n0_; have BK309 := n1_; have GW309 := n2_; have GE309 := n3_; clear n0_ n1_ n2_ n3_; clear hb hbox hg; have hcz5_0 := zc0 BK309; have hcz5_1 := zc1 BK309; have hcz5_2 := zc2 BK309; have hfz5_0 := zf BK309 0; have hfz5_1 := zf BK309 1; have hfz5_2 := zf BK309 2) | ((with_reducible refine gate_callee (f := 48) rfl ?_); refine goesL_ (some 10) rfl rfl Tryz.func48 (by kernel_rfl) rfl #[.agg #[.string a0_0, .slice A0_1 l0_1.length c0_1, .string a0_2]] rfl zA ?_; (with_reducible refine (trystref08_Formed.calls k a0_0 _ _ l0_1 a0_2 true _ zG ?side1 ?side2 A2.out).mono ?_); (case side1 => exact Kd.C_below (Kd.C_below HR0_1.out HB.out) zX); (case side2 => exact HC0_1.out); rintro e w6 ⟨rfl, hb⟩; refine ⟨_, rfl, ?_⟩; replace BK309 := zb BK309 hb; replace HB := zw hb; (try clear hb); have hcz7_0 := zc0 BK309; have hcz7_1 := zc1 BK309; have hcz7_2 := zc2 BK309; have hfz7_0 := zf BK309 0; have hfz7_1 := zf BK309 1; have hfz7_2 := zf BK309 2))
  go_loopg [4, 17] k (fun kq v4 v17 w' => ∃ (x4_1 : ByteArray) (x17_1 : Int), v4 = .string x4_1 ∧ v17 = .int .i64 x17_1 ∧ Aside0 (trystref08_Print.l0 kq x4_1 (l0_1.length : Int) x17_1 a0_0 l0_1 a0_2 = some (r1, r2)) ∧ Aside0 (kq ≤ k) ∧ Aside0 (w'.heap[gb309]? = some (.cells #[.string a0_0, (.slice A0_1 l0_1.length c0_1), .string a0_2] 53 (0, 0))) ∧ Aside0 (Below w.heap.size w w'))
  case atStart => exact ⟨(a0_0), (0), zS, zS, H', ⟨Nat.le_refl _⟩, ⟨blk_below BK309.out zX⟩, ⟨zB⟩⟩
  case round =>
   clear H'; clear hcz5_0 hcz5_1 hcz5_2 hcz7_0 hcz7_1 hcz7_2 hfz5_0 hfz5_1 hfz5_2 hfz7_0 hfz7_1 hfz7_2; obtain ⟨x4_1, x17_1, rfl, rfl, HA, HK1, BK309, HB⟩ := hrel
   cases gk with
   | zero => exact absurd HA.out (by simp [trystref08_Print.l0])
   | succ k1 =>
    have H := HA.out; clear HA; simp only [trystref08_Print.l0] at H; replace H := zId H; rcases H with ⟨-, c8b0, H⟩ | ⟨-, c8b0, H⟩
    ·replace H := zJ H; obtain ⟨c9, H⟩ := H; have c9b0 := eq_true c9; have c9b1 : decide (x4_1.size + 1 ≤ 9223372036854775807) = true := decide_eq_true c9
     try have c9b2 : (9223372036854775807 < x4_1.size + 1) = False := eq_false (Nat.not_lt.2 c9)
     replace H := zJd H; obtain ⟨-, c10b0, H⟩ := H; replace H := zJd H; obtain ⟨-, c11b0, H⟩ := H; replace H := zJ H; obtain ⟨c12, H⟩ := H; have c12b0 := eq_true c12; have c12b1 : decide ((x4_1 ++ (⟨#[59]⟩ : ByteArray)).size + ((rd_T76 l0_1 x17_1).f0).size ≤ 9223372036854775807) = true := decide_eq_true c12
     try have c12b2 : (9223372036854775807 < (x4_1 ++ (⟨#[59]⟩ : ByteArray)).size + ((rd_T76 l0_1 x17_1).f0).size) = False := eq_false (Nat.not_lt.2 c12)
     have H' := Aside0.mk H; clear H; have hcz13_0 := zc0 BK309; have hcz13_1 := zc1 BK309; have hcz13_2 := zc2 BK309; have hfz13_0 := zf BK309 0; have hfz13_1 := zf BK309 1; have hfz13_2 := zf BK309 2; have p311 := zQ (0 ≤ (x17_1 : Int)); have q311 := zQ (x17_1 < (l0_1.length : Int)); obtain ⟨ad311, A311_1, c311_1, e311, hx311_0, hx311_1, hl311_1, hi311_1⟩ := at_T76 HR0_1.out x17_1 p311 q311
     cases e311
     replace hx311_0 := zx HB hx311_0; replace hx311_1 := zx HB hx311_1; have HR311_1 := Aside0.mk hi311_1; have HC311_1 := Aside0.mk hl311_1; clear hi311_1 hl311_1; replace p311 := eq_true p311; replace q311 := eq_true q311; have p312 := zQ (0 ≤ (x17_1 : Int)); have q312 := zQ (x17_1 < (l0_1.length : Int)); obtain ⟨ad312, A312_1, c312_1, e312, hx312_0, hx312_1, hl312_1, hi312_1⟩ := at_T76 HR0_1.out x17_1 p312 q312; obtain rfl : ad311 = ad312 := (by injection e312); replace hx312_0 := zx HB hx312_0; replace hx312_1 := zx HB hx312_1; have HR312_1 := Aside0.mk hi312_1; have HC312_1 := Aside0.mk hl312_1; clear hi312_1 hl312_1; replace p312 := eq_true p312
     replace q312 := eq_true q312; have ea_ := Option.some.inj (hx311_1.symm.trans hx312_1)
     injection ea_ with ea_ en_ ec_
     subst ea_; subst ec_; clear en_; go_wp2
     go_loopg [4, 36] k1 (fun kq v4 v36 w' => ∃ (x4_2 : ByteArray) (x36_2 : Int), v4 = .string x4_2 ∧ v36 = .int .i64 x36_2 ∧ Aside0 (trystref08_Print.l1 kq x4_2 x17_1 (l0_1.length : Int) x17_1 (((rd_T76 l0_1 x17_1).f1).length : Int) x36_2 a0_0 l0_1 a0_2 = some (r1, r2)) ∧ Aside0 (kq ≤ k1) ∧ Aside0 (w'.heap[gb309]? = some (.cells #[.string a0_0, (.slice (some ad311) l0_1.length c0_1), .string a0_2] 53 (0, 0))) ∧ Aside0 (Below w.heap.size w w'))
     case atStart => exact ⟨((x4_1 ++ (⟨#[59]⟩ : ByteArray)) ++ ((rd_T76 l0_1 x17_1).f0)), (0), zS, zS, H', ⟨Nat.le_refl _⟩, ⟨blk_below BK309.out zX⟩, ⟨zB⟩⟩
     case round =>
      clear H'; clear c8b0 c9 c9b0 c9b1 c10b0 c11b0 c12 c12b0 c12b1 hcz13_0 hcz13_1 hcz13_2 hfz13_0 hfz13_1 hfz13_2 hx311_0 hx311_1 hx312_0 hx312_1 p311 p312 q311 q312; obtain ⟨x4_2, x36_2, rfl, rfl, HA, HK2, BK309, HB⟩ := hrel
      cases gk with
      | zero => exact absurd HA.out (by simp [trystref08_Print.l1])
      | succ k2 =>
       have H := HA.out; clear HA; simp only [trystref08_Print.l1] at H; replace H := zId H; rcases H with ⟨-, c14b0, H⟩ | ⟨-, c14b0, H⟩
       ·replace H := zJd H; obtain ⟨-, c15b0, H⟩ := H; replace H := zJd H; obtain ⟨-, c16b0, H⟩ := H; replace H := zJd H; obtain ⟨-, c17b0, H⟩ := H; replace H := zJd H; obtain ⟨-, c18b0, H⟩ := H; replace H := Option.bind_eq_some_iff.mp H; obtain ⟨⟨t315, t316⟩, A190, H⟩ := H
        replace H : (if x36_2 = 0 then (if x4_2.size + 1 ≤ 9223372036854775807 then (if (x4_2 ++ (⟨#[61]⟩ : ByteArray)).size + t315.size ≤ 9223372036854775807 then (trystref08_Print.l1 k2 ((x4_2 ++ (⟨#[61]⟩ : ByteArray)) ++ t315) x17_1 (l0_1.length : Int) x17_1 (((rd_T76 l0_1 x17_1).f1).length : Int) (wrap64 (x36_2 + 1)) a0_0 l0_1 a0_2) else (none)) else (none)) else (if x4_2.size + 1 ≤ 9223372036854775807 then (if (x4_2 ++ (⟨#[44]⟩ : ByteArray)).size + t315.size ≤ 9223372036854775807 then (trystref08_Print.l1 k2 ((x4_2 ++ (⟨#[44]⟩ : ByteArray)) ++ t315) x17_1 (l0_1.length : Int) x17_1 (((rd_T76 l0_1 x17_1).f1).length : Int) (wrap64 (x36_2 + 1)) a0_0 l0_1 a0_2) else (none)) else (none))) = some (r1, r2) := H; have A19 := Aside0.mk A190; clear A190; replace H := zIe H; rcases H with ⟨-, c20b0, c20b1, H⟩ | ⟨c20, c20b0, c20b1, H⟩
        ·replace H := zJ H; obtain ⟨c21, H⟩ := H; have c21b0 := eq_true c21; have c21b1 : decide (x4_2.size + 1 ≤ 9223372036854775807) = true := decide_eq_true c21
         try have c21b2 : (9223372036854775807 < x4_2.size + 1) = False := eq_false (Nat.not_lt.2 c21)
         replace H := zJ H; obtain ⟨c22, H⟩ := H; have c22b0 := eq_true c22; have c22b1 : decide ((x4_2 ++ (⟨#[61]⟩ : ByteArray)).size + t315.size ≤ 9223372036854775807) = true := decide_eq_true c22
         try have c22b2 : (9223372036854775807 < (x4_2 ++ (⟨#[61]⟩ : ByteArray)).size + t315.size) = False := eq_false (Nat.not_lt.2 c22)
         have H' := Aside0.mk H; clear H; have hcz23_0 := zc0 BK309; have hcz23_1 := zc1 BK309; have hcz23_2 := zc2 BK309; have hfz23_0 := zf BK309 0; have hfz23_1 := zf BK309 1; have hfz23_2 := zf BK309 2; have p313 := zQ (0 ≤ (x17_1 : Int)); have q313 := zQ (x17_1 < (l0_1.length : Int)); obtain ⟨ad313, A313_1, c313_1, e313, hx313_0, hx313_1, hl313_1, hi313_1⟩ := at_T76 HR0_1.out x17_1 p313 q313; obtain rfl : ad311 = ad313 := (by injection e313); replace hx313_0 := zx HB hx313_0
         replace hx313_1 := zx HB hx313_1; have HR313_1 := Aside0.mk hi313_1; have HC313_1 := Aside0.mk hl313_1; clear hi313_1 hl313_1; replace p313 := eq_true p313; replace q313 := eq_true q313; have p314 := zQ (0 ≤ (x36_2 : Int)); have q314 := zQ (x36_2 < (((rd_T76 l0_1 x17_1).f1).length : Int)); obtain ⟨ad314, e314, hx314_0⟩ := Kd.at_string HR313_1.out x36_2 p314 q314
         cases e314
         replace hx314_0 := zx HB hx314_0; replace p314 := eq_true p314; replace q314 := eq_true q314
         go_wp2_with (first | ((with_reducible refine gate_callee (f := 68) rfl ?_); refine zqb 49 Tryz.func68 #[.string (rdOf ByteArray.empty ((rd_T76 l0_1 x17_1).f1) x36_2)] (trystref08_Param.calls k2 (rdOf ByteArray.empty ((rd_T76 l0_1 x17_1).f1) x36_2) t315 t316 _ zG A19.out) (fun w24 hb => ?_); replace BK309 := zb BK309 hb; replace HB := zw hb; (try clear hb)))
         go_roundg k2
         case measure => have := HK1.out; have := HK2.out; omega
         case rel => exact ⟨((x4_2 ++ (⟨#[61]⟩ : ByteArray)) ++ t315), (wrap64 (x36_2 + 1)), zS, zS, H', ⟨by have := HK1.out; have := HK2.out; omega⟩, ⟨blk_below BK309.out zX⟩, ⟨zB⟩⟩
        ·replace H := zJ H; obtain ⟨c25, H⟩ := H; have c25b0 := eq_true c25; have c25b1 : decide (x4_2.size + 1 ≤ 9223372036854775807) = true := decide_eq_true c25
         try have c25b2 : (9223372036854775807 < x4_2.size + 1) = False := eq_false (Nat.not_lt.2 c25)
         replace H := zJ H; obtain ⟨c26, H⟩ := H; have c26b0 := eq_true c26; have c26b1 : decide ((x4_2 ++ (⟨#[44]⟩ : ByteArray)).size + t315.size ≤ 9223372036854775807) = true := decide_eq_true c26
         try have c26b2 : (9223372036854775807 < (x4_2 ++ (⟨#[44]⟩ : ByteArray)).size + t315.size) = False := eq_false (Nat.not_lt.2 c26)
         have H' := Aside0.mk H; clear H; have hcz27_0 := zc0 BK309; have hcz27_1 := zc1 BK309; have hcz27_2 := zc2 BK309; have hfz27_0 := zf BK309 0; have hfz27_1 := zf BK309 1; have hfz27_2 := zf BK309 2; have p313 := zQ (0 ≤ (x17_1 : Int)); have q313 := zQ (x17_1 < (l0_1.length : Int)); obtain ⟨ad313, A313_1, c313_1, e313, hx313_0, hx313_1, hl313_1, hi313_1⟩ := at_T76 HR0_1.out x17_1 p313 q313; obtain rfl : ad311 = ad313 := (by injection e313); replace hx313_0 := zx HB hx313_0
         replace hx313_1 := zx HB hx313_1; have HR313_1 := Aside0.mk hi313_1; have HC313_1 := Aside0.mk hl313_1; clear hi313_1 hl313_1; replace p313 := eq_true p313; replace q313 := eq_true q313; have p314 := zQ (0 ≤ (x36_2 : Int)); have q314 := zQ (x36_2 < (((rd_T76 l0_1 x17_1).f1).length : Int)); obtain ⟨ad314, e314, hx314_0⟩ := Kd.at_string HR313_1.out x36_2 p314 q314
         cases e314
         replace hx314_0 := zx HB hx314_0; replace p314 := eq_true p314; replace q314 := eq_true q314
         go_wp2_with (first | ((with_reducible refine gate_callee (f := 68) rfl ?_); refine zqb 49 Tryz.func68 #[.string (rdOf ByteArray.empty ((rd_T76 l0_1 x17_1).f1) x36_2)] (trystref08_Param.calls k2 (rdOf ByteArray.empty ((rd_T76 l0_1 x17_1).f1) x36_2) t315 t316 _ zG A19.out) (fun w28 hb => ?_); replace BK309 := zb BK309 hb; replace HB := zw hb; (try clear hb)))
         go_roundg k2
         case measure => have := HK1.out; have := HK2.out; omega
         case rel => exact ⟨((x4_2 ++ (⟨#[44]⟩ : ByteArray)) ++ t315), (wrap64 (x36_2 + 1)), zS, zS, H', ⟨by have := HK1.out; have := HK2.out; omega⟩, ⟨blk_below BK309.out zX⟩, ⟨zB⟩⟩
       ·have H' := Aside0.mk H; clear H; go_wp2
        go_roundg k2
        case measure => have := HK1.out; have := HK2.out; omega
        case rel => exact ⟨(x4_2), (wrap64 (x17_1 + 1)), zS, zS, H', ⟨by have := HK1.out; have := HK2.out; omega⟩, ⟨blk_below BK309.out zX⟩, ⟨zB⟩⟩
    ·replace H := zJ H; obtain ⟨c29, H⟩ := H; have c29b0 := eq_true c29; have c29b1 : decide (x4_1.size + 1 ≤ 9223372036854775807) = true := decide_eq_true c29
     try have c29b2 : (9223372036854775807 < x4_1.size + 1) = False := eq_false (Nat.not_lt.2 c29)
     replace H := zJ H; obtain ⟨c30, H⟩ := H; have c30b0 := eq_true c30; have c30b1 : decide ((x4_1 ++ (⟨#[58]⟩ : ByteArray)).size + a0_2.size ≤ 9223372036854775807) = true := decide_eq_true c30
     try have c30b2 : (9223372036854775807 < (x4_1 ++ (⟨#[58]⟩ : ByteArray)).size + a0_2.size) = False := eq_false (Nat.not_lt.2 c30)
     replace H := zI H; rcases H with ⟨c31, H⟩ | ⟨c31, H⟩
     ·have c31b0 : decide (2000 < (((x4_1 ++ (⟨#[58]⟩ : ByteArray)) ++ a0_2).size : Int)) = true := decide_eq_true c31; have c31b3 : decide ((2000 : Int) < (x4_1.size : Int) + 1 + (a0_2.size : Int)) = true := by have h9 := c31b0; rw [show ((((x4_1 ++ (⟨#[58]⟩ : ByteArray)) ++ a0_2).size : Nat) : Int) = (x4_1.size : Int) + 1 + (a0_2.size : Int) from by simp only [ByteArray.size_append]; first | rfl | (simp; done) | (simp; omega)] at h9; exact h9
      have c31b1 : decide (2000 < ((x4_1 ++ (⟨#[58]⟩ : ByteArray)) ++ a0_2).size) = true := decide_eq_true (by omega); clear c31; simp only [Option.some.injEq, Prod.mk.injEq] at H; obtain ⟨rfl, rfl⟩ := H; have hcz32_0 := zc0 BK309; have hcz32_1 := zc1 BK309; have hcz32_2 := zc2 BK309; have hfz32_0 := zf BK309 0; have hfz32_1 := zf BK309 1; have hfz32_2 := zf BK309 2; go_wp2; go_ret2; exact ⟨zE, zB⟩
     ·have c31b0 : decide (2000 < (((x4_1 ++ (⟨#[58]⟩ : ByteArray)) ++ a0_2).size : Int)) = false := decide_eq_false c31; have c31b3 : decide ((2000 : Int) < (x4_1.size : Int) + 1 + (a0_2.size : Int)) = false := by have h9 := c31b0; rw [show ((((x4_1 ++ (⟨#[58]⟩ : ByteArray)) ++ a0_2).size : Nat) : Int) = (x4_1.size : Int) + 1 + (a0_2.size : Int) from by simp only [ByteArray.size_append]; first | rfl | (simp; done) | (simp; omega)] at h9; exact h9
      have c31b1 : decide (2000 < ((x4_1 ++ (⟨#[58]⟩ : ByteArray)) ++ a0_2).size) = false := decide_eq_false (by omega); clear c31; simp only [Option.some.injEq, Prod.mk.injEq] at H; obtain ⟨rfl, rfl⟩ := H; have hcz33_0 := zc0 BK309; have hcz33_1 := zc1 BK309; have hcz33_2 := zc2 BK309; have hfz33_0 := zf BK309 0; have hfz33_1 := zf BK309 1; have hfz33_2 := zf BK309 2; go_wp2; go_ret2; exact ⟨zE, zB⟩
 ·simp only [Option.some.injEq, Prod.mk.injEq] at H; obtain ⟨rfl, rfl⟩ := H
  go_enter Tryz.func42, Tryz.ntmps42
  go_wp2_with (first | ((with_reducible refine gate_dst (N := 1) rfl ?_); refine zbox (N := 1) #[.string a0_0, .slice A0_1 l0_1.length c0_1, .string a0_2] 53 (fun gb309 hg w34 hbox hb => ?_); have n0_ := zw hb; have n1_ := Aside0.mk hbox; have n2_ := zg w hg; have n3_ := zg w hg; clear HB; have HB := n0_; have BK309 := n1_; have GW309 := n2_; have GE309 := n3_; clear n0_ n1_ n2_ n3_; clear hb hbox hg; have hcz35_0 := zc0 BK309; have hcz35_1 := zc1 BK309; have hcz35_2 := zc2 BK309; have hfz35_0 := zf BK309 0; have hfz35_1 := zf BK309 1; have hfz35_2 := zf BK309 2) | ((with_reducible refine gate_callee (f := 48) rfl ?_); refine goesL_ (some 10) rfl rfl Tryz.func48 (by kernel_rfl) rfl #[.agg #[.string a0_0, .slice A0_1 l0_1.length c0_1, .string a0_2]] rfl zA ?_; (with_reducible refine (trystref08_Formed.calls k a0_0 _ _ l0_1 a0_2 false _ zG ?side1 ?side2 A2.out).mono ?_); (case side1 => exact Kd.C_below (Kd.C_below HR0_1.out HB.out) zX); (case side2 => exact HC0_1.out); rintro e w36 ⟨rfl, hb⟩; refine ⟨_, rfl, ?_⟩; replace BK309 := zb BK309 hb; replace HB := zw hb; (try clear hb)))
  go_ret2; exact ⟨zE, zB⟩
end Go.Proofs.YtdojmdbaiddkgaaGreatDoor.Print
end
