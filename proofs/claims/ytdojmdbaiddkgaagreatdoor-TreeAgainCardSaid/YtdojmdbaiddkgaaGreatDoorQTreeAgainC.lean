/- Texts of the proof of TreeAgain, put together: TGUp TGLined Great TGLine TGLine2 TGLine3 RName RValue Print4 LParse TGParse Print6 PLine0T PTree PUtf0U PUtfU PFormU. -/
import Derived.Test.YtdojmdbaiddkgaaGreatDoorProg
import Derived.Below
import Derived.Deep.Draws
import Derived.Deep.AppendLies
import Derived.Maps.AppendAt
import Derived.OwnWalk
import Derived.Laws.BytesArg
import Derived.Laws.MakeOwn
import Derived.Laws.OwnMore
import Derived.Deep.OwnRows
import Derived.Tactics
import Derived.Lib.ConvBytes
import Derived.Laws.Slices
import Derived.WalkKit
import Derived.KernelRfl
import Derived.RowKit3
import Derived.Deep.LoopGhost
import Derived.Deep.QuietTactic
import Derived.BigQuiet
import Derived.WideLaws
import Derived.Deep.DeepCutAuto
import Derived.Deep.CutBlock
import Derived.Deep.RegionHeld3
import Derived.Laws.Rows
import Derived.Lib.AppendStr
import Derived.ArgAppend
import Derived.Laws.IdiomCopy
import Derived.OrdersHeld
import Derived.Laws.BitsLemmas
import Derived.RowKit
import Derived.Test.YtdojmdbaiddkgaaGreatDoorQTreeAgainWMore
import Derived.Shelf.Unicode.ValidAny
import Derived.Shelf.Strings.Builder1
import Derived.Shelf.Strings.Builder2
import Derived.Shelf.Small.Utf8
import Derived.Shelf.Small.Strs
import Derived.Shelf.Strings.BuilderF
import Derived.Shelf.Strings.BuilderK
import Derived.Shelf.Strings.Builder2Cap
import Derived.Shelf.Strings.Search1
import Derived.Shelf.Strings.Search2
import Derived.Shelf.Strings.Search3
import Derived.Shelf.Strings.Count
import Derived.Shelf.LaysM
import Derived.Shelf.Strings.Shaped
import Derived.Shelf.Strings.Prefix
import Derived.Shelf.Strings.Runes
import Derived.Shelf.Strings.IndexAny
import Derived.Shelf.Strings.AsciiSet
import Derived.Shelf.Strings.IndexAnyAll
import Derived.Shelf.Unicode.DecodeSlow
import Derived.Shelf.Unicode.DecodeAny
import Derived.Shelf.Strings.BuilderCap
import Derived.Shelf.Slices.Equal
import Derived.Shelf.Slices.Empties2
import Derived.WalkSpells
import Derived.Laws.Runes
import Derived.Laws.RangeAny
import Derived.Laws.RangeString
import Derived.Lib.IndexAny
import Derived.Lib.SpaceUEq
import Derived.Lib.RuneCount
import Derived.Lib.QuoteLoop
import Derived.Lib.Hide
import Derived.Lib.OthersKept
import Derived.Lib.DecodeN
import Derived.IntWalk
import Derived.Test.YtdojmdbaiddkgaaGreatDoorQTreeAgainWWords
import Derived.Test.YtdojmdbaiddkgaaGreatDoorQTreeAgainWLast
import Derived.Test.YtdojmdbaiddkgaaGreatDoorQTreeAgainWTab
import Derived.Test.YtdojmdbaiddkgaaGreatDoorQTreeAgainWQPut
import Derived.Test.YtdojmdbaiddkgaaGreatDoorQTreeAgainWApart
import Derived.Test.YtdojmdbaiddkgaaGreatDoorQTreeAgainWArr
import Derived.Test.YtdojmdbaiddkgaaGreatDoorQTreeAgainWZeros
import Derived.Test.YtdojmdbaiddkgaaGreatDoorQTreeAgainWFoot
import Derived.Test.YtdojmdbaiddkgaaGreatDoorQTreeAgainWKept
import Derived.Test.YtdojmdbaiddkgaaGreatDoorQTreeAgainWShare
import Derived.Test.YtdojmdbaiddkgaaGreatDoorQTreeAgainWN
import Derived.Test.YtdojmdbaiddkgaaGreatDoorQTreeAgainWRepsOne
import Derived.Test.YtdojmdbaiddkgaaGreatDoorQTreeAgainWInv
import Derived.Test.YtdojmdbaiddkgaaGreatDoorQTreeAgainWGuard
import Derived.Test.YtdojmdbaiddkgaaGreatDoorQTreeAgainWNEv
import Derived.Outline
import Derived.Laws.IdiomStrings
import Derived.Deep.RegionWith
import Derived.RegionCalls
import Derived.Laws.NewBlocks
import Derived.Lib.IndexLaws
import Derived.Laws.CopyRow
import Derived.Laws.CopyOwn
import Derived.Deep.WholeRow
import Derived.Tactics2
import Derived.Defers
import Derived.Laws.Pointers
import Derived.Laws.LoneSync
import Derived.RegionTactic
import Derived.Lib.TrimUEq
import Derived.Lib.MapLaws
import Derived.Lib.SmallJoins
import Derived.Shelf.Unicode.DecodeLastEight
import Derived.Lib.ValidU
import Derived.Lib.ValidLaws
import Derived.Test.YtdojmdbaiddkgaaGreatDoorQTreeAgainB
section
set_option linter.unusedVariables false
set_option linter.unusedSimpArgs false
namespace Go.Proofs.YtdojmdbaiddkgaaGreatDoor.Print
open Go.RowKit Go.Proofs.YtdojmdbaiddkgaaGreatDoorW.PrintWords Go.Proofs.YtdojmdbaiddkgaaGreatDoorW.PrintLast Go.Proofs.YtdojmdbaiddkgaaGreatDoorW.PrintMore
/-- One cell of the row is written. -/
theorem own_cell3 {w w' : World} {base n bk cap j : Nat} {cur : Array Value} {xs : List Value} {u : Value} (h : w.ownsRow base 31 3 (.slice (some ⟨bk, 0, none⟩) n cap) n xs) (hc : w.heap[bk]? = some (.cells cur 31 (0, 0))) (hj : j < n * 3)
    (h' : w'.heap[bk]? = some (.cells (cur.setIfInBounds j u) 31 (0, 0))) : w'.ownsRow base 31 3 (.slice (some ⟨bk, 0, none⟩) n cap) n (xs.set j u) := by
  obtain ⟨hl, h2⟩ := h
  refine ⟨by rw [List.length_set]; exact hl, ?_⟩
  rcases h2 with ⟨hv, _⟩ | ⟨g, cap', cur', hv, hb, hh, h3, h4, h5, h6⟩
  · cases hv
  · injection hv with ha _ hcap
    injection ha with ha
    injection ha with ha _ _
    subst ha; subst hcap
    rw [hc] at hh
    obtain rfl : cur = cur' := by simpa using hh
    refine .inr ⟨bk, cap, _, rfl, hb, h', h3, h4, by simp [h5], ?_⟩
    rw [Array.toList_setIfInBounds, List.take_set, h6]
theorem frc_set (fr : List Fr) (y : Fr) (u : Value) : (frc (fr ++ [y])).set (fr.length * 3 + 2) u = frc (fr ++ [{ y with vK := u }]) := by
  rw [frc_append, frc_append, List.set_append_right _ _ (by rw [frc_len]; omega), frc_len, show fr.length * 3 + 2 - fr.length * 3 = 2 by omega]
  rfl
theorem frc_take (fr : List Fr) (x : Fr) : (frc (fr ++ [x])).take (fr.length * 3) = frc fr := by
  rw [frc_append, List.take_left' (frc_len fr)]
theorem typesTE : ∀ q, q ∈ k31.E → q ≠ 65 := by decide
theorem TSt.ended {w : World} {g : Nat} {fr : List Fr} {x y : Fr} {bk cap bk2 cap2 : Nat} {wr w1 w' : World} {cur cur2 : Array Value} {inner : List Value} {f : Nat → Nat} (h : TSt w g (fr ++ [y] ++ [x]) (.slice (some ⟨bk, 0, none⟩) (fr.length + 1 + 1) cap) wr)
    (f0 : f bk = 0) (hc : Cols wr w.heap.size f (fr ++ [y] ++ [x])) (hcur : wr.heap[bk]? = some (.cells cur 31 (0, 0)))
    (hin : wr.ownsRow w.heap.size 31 3 y.vK y.ks.length inner) (hr : Reps (k31.M wr w.heap.size (fun k => f k = 2 * fr.length + 2 ∧ some k ≠ y.vK.ownBlock)) 3 y.ks inner)
    (hown : w1.ownsRow w.heap.size 31 3 (.slice (some ⟨bk2, 0, none⟩) (y.ks.length + 1) cap2) (y.ks.length + 1) (inner ++ [.string ⟨#[]⟩, .slice none 0 0, .slice none 0 0])) (hcur2 : w1.heap[bk2]? = some (.cells cur2 31 (0, 0)))
    (hat : some bk2 = y.vK.ownBlock ∨ wr.heap.size ≤ bk2) (hB : Below w.heap.size w w')
    (hst : RSt w' g #[.slice (some ⟨bk, 0, none⟩) (fr.length + 1) cap, .string ⟨#[]⟩, .slice none 0 0, .slice none 0 0, .bool false])
    (hbk : w'.heap[bk]? = some (.cells (cur.setIfInBounds (fr.length * 3 + 2) (.slice (some ⟨bk2, 0, none⟩) (y.ks.length + 1) cap2)) 31 (0, 0)))
    (hbk2 : w'.heap[bk2]? = some (.cells (((cur2.setIfInBounds (y.ks.length * 3) (.string x.nm)).setIfInBounds (y.ks.length * 3 + 1) x.vL).setIfInBounds (y.ks.length * 3 + 2) x.vK) 31 (0, 0)))
    (hm : ∀ k, k < wr.heap.size → k ≠ g → k ≠ bk → k ≠ bk2 → some k ≠ y.vK.ownBlock → w'.heap[k]? = wr.heap[k]?) :
    TSt w g (fr ++ [⟨y.nm, y.vL, y.ls, .slice (some ⟨bk2, 0, none⟩) (y.ks.length + 1) cap2, y.ks ++ [⟨x.nm, x.ls, x.ks⟩]⟩]) (.slice (some ⟨bk, 0, none⟩) (fr.length + 1) cap) w' := by
  have hbl : bk < wr.heap.size := blk_lt hcur
  have hcy := hc fr.length y (by simp)
  have hcx := hc (fr.length + 1) x (by simp)
  -- the block of the inner row: of colour 2 m + 2, or new
  have h2c : f bk2 = 2 * fr.length + 2 ∧ bk2 < wr.heap.size ∨ wr.heap.size ≤ bk2 := by
    rcases hat with e | e
    · left
      refine ⟨hcy.2.1 bk2 e.symm, ?_⟩
      obtain ⟨cells, hcl⟩ := own_typed hin bk2 e.symm
      exact blk_lt hcl
    · exact .inr e
  let f' : Nat → Nat := fun k => if k < wr.heap.size then (if f k = 2 * fr.length + 3 ∨ f k = 2 * fr.length + 4 then 2 * fr.length + 2 else f k) else 2 * fr.length + 2
  have hf1 : ∀ k c, k < wr.heap.size → f k = c → c ≠ 2 * fr.length + 3 → c ≠ 2 * fr.length + 4 → f' k = c := fun k c hk hc h1 h2 => by
    show (if k < wr.heap.size then _ else _) = c
    rw [if_pos hk, if_neg (by omega)]; exact hc
  have hf2 : ∀ k, k < wr.heap.size → (f k = 2 * fr.length + 3 ∨ f k = 2 * fr.length + 4) → f' k = 2 * fr.length + 2 := fun k hk h => by
    show (if k < wr.heap.size then _ else _) = _
    rw [if_pos hk, if_pos h]
  have hf3 : f' bk2 = 2 * fr.length + 2 := by
    rcases h2c with ⟨e, hl⟩ | e
    · exact hf1 bk2 _ hl e (by omega) (by omega)
    · show (if bk2 < wr.heap.size then _ else _) = _
      rw [if_neg (by omega)]
  have hmv : ∀ k c, f k = c → c ≠ 0 → c ≠ 2 * fr.length + 2 → k < wr.heap.size → k ≠ g → w'.heap[k]? = wr.heap[k]? := fun k c hk h0 h2 hl hg => hm k hl hg (fun e => by subst e; omega) (fun e => by subst e; omega) (fun e => by have := hcy.2.1 k e.symm; omega)
  refine ⟨hst, h.hg, ?_, ⟨f', fun k hk => ?_, ?_⟩, hB⟩
  · have h1 := own_take (m := fr.length + 1) (by have := h.own; rw [List.length_append, List.length_append, List.length_singleton, List.length_singleton] at this; exact this) (by omega)
    rw [show (fr.length + 1) * 3 = (fr ++ [y]).length * 3 by simp, frc_take] at h1
    have h2 := own_cell3 (j := fr.length * 3 + 2) h1 hcur (by omega) hbk
    rw [frc_set, frc_append] at h2
    rw [List.length_append, List.length_singleton, frc_append]
    exact h2
  · obtain rfl : bk = k := by simpa [Value.ownBlock] using hk
    exact hf1 bk 0 hbl f0 (by omega) (by omega)
  · refine Cols.snoc (fun i z hz => ?_) ?_ ?_
    · have hil : i < fr.length := (List.getElem?_eq_some_iff.1 hz).1
      obtain ⟨q1, q2⟩ := hc i z (by rw [List.append_assoc, List.getElem?_append_left hil]; exact hz)
      exact ⟨R_stepG q1 h.st typesLR (fun k hk hl hg => hmv k _ hk (by omega) (by omega) hl hg) (fun k hk hl => hf1 k _ hl hk (by omega) (by omega)), R_stepG q2 h.st typesTR (fun k hk hl hg => hmv k _ hk (by omega) (by omega) hl hg) (fun k hk hl => hf1 k _ hl hk (by omega) (by omega))⟩
    · exact R_stepG hcy.1 h.st typesLR (fun k hk hl hg => hmv k _ hk (by omega) (by omega) hl hg) (fun k hk hl => hf1 k _ hl hk (by omega) (by omega))
    · have hxl : ∀ k, k < wr.heap.size → (f k = 2 * fr.length + 3 ∨ f k = 2 * fr.length + 4) → f' k = 2 * fr.length + 2 ∧ some k ≠ (Value.slice (some ⟨bk2, 0, none⟩) (y.ks.length + 1) cap2).ownBlock := fun k hl hk => ⟨hf2 k hl hk, fun e => by
        obtain rfl : k = bk2 := by simpa [Value.ownBlock] using e
        rcases h2c with ⟨e, _⟩ | e
        · omega
        · omega⟩
      have gL : Kd.R k49 49 w' w.heap.size (fun k => f' k = 2 * fr.length + 2 ∧ some k ≠ (Value.slice (some ⟨bk2, 0, none⟩) (y.ks.length + 1) cap2).ownBlock) x.vL x.ls :=
        R_stepG hcx.1 h.st typesLR (fun k hk hl hg => hmv k _ hk (by omega) (by omega) hl hg) (fun k hk hl => hxl k hl (.inl (by omega)))
      have gK : Kd.R k31 31 w' w.heap.size (fun k => f' k = 2 * fr.length + 2 ∧ some k ≠ (Value.slice (some ⟨bk2, 0, none⟩) (y.ks.length + 1) cap2).ownBlock) x.vK x.ks :=
        R_stepG hcx.2 h.st typesTR (fun k hk hl hg => hmv k _ hk (by omega) (by omega) hl hg) (fun k hk hl => hxl k hl (.inr (by omega)))
      refine ⟨fun k hk => ?_, inner ++ [.string x.nm, x.vL, x.vK], ?_, ?_⟩
      · obtain rfl : bk2 = k := by simpa [Value.ownBlock] using hk
        exact hf3
      · rw [List.length_append, List.length_singleton]
        exact own_last3 hown hin.1 hcur2 hbk2
      · refine Reps.snoc (Reps.imp_ hr (fun p c hp => ?_)) (k31_mkM w' w.heap.size _ ⟨x.nm, x.ls, x.ks⟩ gL gK) rfl
        have hb := k31.M_bound hp
        refine k31.M_mono (fun k hk => ?_) (k31.M_move (fun k hk => ?_) hb)
        · obtain ⟨⟨k1, k2⟩, k3, k4, q, hq, cells, hcl⟩ := hk
          refine ⟨hf1 k _ k4 k1 (by omega) (by omega), fun e => ?_⟩
          obtain rfl : k = bk2 := by simpa [Value.ownBlock] using e
          rcases hat with e | e
          · exact k2 e
          · omega
        · obtain ⟨⟨k1, k2⟩, k3, k4, q, hq, cells, hcl⟩ := hk
          refine hm k k4 (fun e => ?_) (fun e => ?_) (fun e => ?_) k2
          · subst e
            have := h.st
            unfold RSt at this
            rw [hcl] at this
            have e2 : q = 65 := by simpa using congrArg (fun o => match o with | some (Obj.cells _ t _) => t | _ => 0) this
            exact typesTE q hq e2
          · subst e; omega
          · subst e
            rcases hat with e | e
            · exact k2 e
            · omega
theorem inner_z0 {inner : List Value} {n : Nat} (h : inner.length = n * 3) (a b c : Value) : (inner ++ [a, b, c])[n * 3]? = some a := by rw [← h, List.getElem?_append_right (Nat.le_refl _), Nat.sub_self]; rfl
theorem inner_z1 {inner : List Value} {n : Nat} (h : inner.length = n * 3) (a b c : Value) : (inner ++ [a, b, c])[n * 3 + 1]? = some b := by rw [← h, List.getElem?_append_right (by omega), show inner.length + 1 - inner.length = 1 by omega]; rfl
theorem inner_z2 {inner : List Value} {n : Nat} (h : inner.length = n * 3) (a b c : Value) : (inner ++ [a, b, c])[n * 3 + 2]? = some c := by rw [← h, List.getElem?_append_right (by omega), show inner.length + 2 - inner.length = 2 by omega]; rfl
set_option maxHeartbeats 2000000 in
set_option maxRecDepth 100000 in
theorem ends_up (w : World) (g : Nat) (fr : List Fr) (y x : Fr) (v : Value) (wr : World) (h : TSt w g (fr ++ [y] ++ [x]) v wr) (hn : fr.length < 4) (hks : y.ks.length ≤ 1000000) :
    Calls Tryz.prog 58 #[.pointer (some ⟨g, 0, none⟩), .string x.nm] wr fun e w' => e = .returned (.int .i64 0) ∧ ∃ v1 v2, TSt w g (fr ++ [⟨y.nm, y.vL, y.ls, v2, y.ks ++ [⟨x.nm, x.ls, x.ks⟩]⟩]) v1 w' := by
  obtain ⟨bk, cap, cur, hv, hbk, hcap, hcur, e0, e1, e2⟩ := last_cells h.own
  rw [List.length_append, List.length_singleton] at hv hcap e0 e1 e2
  subst hv
  obtain ⟨f, f0, hc⟩ := h.col
  have hcx := hc (fr.length + 1) x (by simp)
  have hcy := hc fr.length y (by simp)
  obtain ⟨AL, cL, hL⟩ := Kd.R_slice hcx.1
  obtain ⟨AK, cK, hK⟩ := Kd.R_slice hcx.2
  obtain ⟨AY, cY, hY⟩ := Kd.R_slice hcy.2
  rw [hL] at e1
  rw [hK] at e2
  have e5 : wr.cell? ⟨bk, fr.length * 3 + 2, none⟩ = some (.slice AY y.ks.length cY) := by
    obtain ⟨bk', cap', cur', hv', _, hc', hq'⟩ := own_form3 h.own (by simp)
    injection hv' with ha _ _
    injection ha with ha
    injection ha with ha _ _
    subst ha
    rw [blk_cell hc', hq' _ (by simp; omega), List.append_assoc, frc_append, List.getElem?_append_right (by rw [frc_len]; omega), frc_len, show fr.length * 3 + 2 - fr.length * 3 = 2 by omega, ← hY]
    rfl
  obtain ⟨hy0, inner, hin, hrp⟩ := hcy.2
  have HT := Aside0.mk h
  have HF0 := Aside0.mk (f0 bk rfl)
  have HC := Aside0.mk hc
  have HCUR := Aside0.mk hcur
  have HIN := Aside0.mk hin
  have HRP := Aside0.mk hrp
  have HY0 := Aside0.mk hy0
  have hbl : bk < wr.heap.size := blk_lt hcur
  have hgl := h.gl
  have hgb : g ≠ bk := fun e => h.ne (by rw [e]; rfl)
  have hst := h.st
  have c0 : wr.cell? ⟨g, 0, none⟩ = some (.slice (some ⟨bk, 0, none⟩) (fr.length + 1 + 1) cap) := h.st.cells.1
  have g0 := h.st.frozen 0
  have z5 := blk_frozen hcur (fr.length * 3 + 2)
  have hw1 : IntKind.i64.wrap ((fr.length : Int) + 1 + 1 - 1) = (fr.length : Int) + 1 := by rw [i64_w]; unfold wrap64; omega
  have hw2 : IntKind.i64.wrap ((fr.length : Int) + 1 - 1) = (fr.length : Int) := by rw [i64_w]; unfold wrap64; omega
  have hnb : (x.nm.toList == x.nm.toList) = true := beq_self_eq_true _
  have hni : ((fr.length : Int) + 1 < (fr.length : Int) + 1 + 1) = True := eq_true (by omega)
  have hni2 : ((fr.length : Int) < (fr.length : Int) + 1) = True := eq_true (by omega)
  have hn0 : (0 ≤ (fr.length : Int) + 1) = True := eq_true (by omega)
  have hn1 : (0 ≤ (fr.length : Int)) = True := eq_true (by omega)
  have hz : ((fr.length : Int) + 1 == 0) = false := beq_eq_false_iff_ne.2 (by omega)
  have hcp : ((fr.length : Int) + 1 ≤ (cap : Int)) = True := eq_true (by omega)
  clear h f0 hc hcx hcy hcur hin hrp hy0
  go_enter Tryz.func58, Tryz.ntmps58
  go_wp2_with fail
  obtain ⟨WB, hWB⟩ : ∃ WB, WB = ((wr.setCell ⟨g, 0, none⟩ (.slice (some ⟨bk, 0, none⟩) (fr.length + 1) cap)).alloc (.cells #[.string x.nm, .slice AL x.ls.length cL, .slice AK x.ks.length cK] 31)) := ⟨_, rfl⟩
  rw [← hWB]
  have hbsz : WB.heap.size = wr.heap.size + 1 := by rw [hWB]; simp [size_set]
  have hbs : ∀ k, k < wr.heap.size → k ≠ g → WB.heap[k]? = wr.heap[k]? := fun k hk hkg => by
    rw [hWB, Below.heap_alloc _ _ _ (by rw [size_set]; exact hk), Below.heap_setCell _ ⟨g, 0, none⟩ _ k hkg]
  have hbx : WB.heap[wr.heap.size]? = some (.cells #[.string x.nm, .slice AL x.ls.length cL, .slice AK x.ks.length cK] 31 (0, 0)) := by
    have := blk_new (wr.setCell ⟨g, 0, none⟩ (.slice (some ⟨bk, 0, none⟩) (fr.length + 1) cap)) (.cells #[.string x.nm, .slice AL x.ls.length cL, .slice AK x.ks.length cK] 31 (0, 0))
    rw [size_set] at this
    rw [hWB]; exact this
  have HBS := Aside0.mk hbs
  have HSZ := Aside0.mk hbsz
  have hcb : WB.heap[bk]? = some (.cells cur 31 (0, 0)) := (hbs bk hbl (Ne.symm hgb)).trans HCUR.out
  have e5 : WB.cell? ⟨bk, fr.length * 3 + 2, none⟩ = some (.slice AY y.ks.length cY) := by rw [blk_cell hcb]; rw [blk_cell HCUR.out] at e5; exact e5
  have b0 : WB.cell? ⟨wr.heap.size, 0, none⟩ = some (.string x.nm) := blk_cell hbx 0
  have b1 : WB.cell? ⟨wr.heap.size, 1, none⟩ = some (.slice AL x.ls.length cL) := blk_cell hbx 1
  have b2 : WB.cell? ⟨wr.heap.size, 2, none⟩ = some (.slice AK x.ks.length cK) := blk_cell hbx 2
  have HBE : Aside0 (Below w.heap.size w WB) := ⟨by rw [hWB]; exact below_alloc (below_set HT.out.bel HT.out.hg) _⟩
  have HGS : Aside0 (RSt WB g #[.slice (some ⟨bk, 0, none⟩) (fr.length + 1) cap, .string ⟨#[]⟩, .slice none 0 0, .slice none 0 0, .bool false]) := ⟨by rw [hWB]; exact RSt.alloc (RSt.set0 hst _) _⟩
  have HCB := Aside0.mk hcb
  have hyb : some bk ≠ y.vK.ownBlock := fun e => by have := HY0.out bk e.symm; have := HF0.out; omega
  have hyg : ∀ k, y.vK.ownBlock = some k → k < wr.heap.size ∧ k ≠ g := fun k hk => by
    obtain ⟨cells, hcl⟩ := own_typed HIN.out k hk
    refine ⟨blk_lt hcl, fun e => ?_⟩
    subst e
    unfold RSt at hst
    rw [hst] at hcl
    simp at hcl
  have HYG := Aside0.mk hyg
  have HIL := Aside0.mk HIN.out.1
  have hxl : wr.heap.size < WB.heap.size := by omega
  have hbl2 : bk < WB.heap.size := by omega
  have b0a : ∀ o, (WB.alloc o).cell? ⟨wr.heap.size, 0, none⟩ = some (.string x.nm) := fun o => (World.cell?_alloc_lt _ _ _ hxl).trans b0
  have b1a : ∀ o, (WB.alloc o).cell? ⟨wr.heap.size, 1, none⟩ = some (.slice AL x.ls.length cL) := fun o => (World.cell?_alloc_lt _ _ _ hxl).trans b1
  have b2a : ∀ o, (WB.alloc o).cell? ⟨wr.heap.size, 2, none⟩ = some (.slice AK x.ks.length cK) := fun o => (World.cell?_alloc_lt _ _ _ hxl).trans b2
  have e5a : ∀ o, (WB.alloc o).cell? ⟨bk, fr.length * 3 + 2, none⟩ = some (.slice AY y.ks.length cY) := fun o => (World.cell?_alloc_lt _ _ _ hbl2).trans e5
  clear hbs hbx hcb hyg hst hbsz hWB
  go_region_law (refine step_append_cells (w0 := w) (W := WB.drew) w.heap.size (by rfl) (.tmp 53) (.tmp 56) 29 31 (.agg #[.string ⟨#[]⟩, .slice none 0 0, .slice none 0 0]) 3 64 (by rfl) Tryz.underlying29 info31 (by rfl) (by decide) (by decide) (.slice AY y.ks.length cY) y.ks.length inner [.string ⟨#[]⟩, .slice none 0 0, .slice none 0 0] (by rfl) (by rfl) rfl (by intro u hu; simp at hu; rcases hu with rfl | rfl <;> rfl) (by rw [← hY]; exact own_move HIN.out (fun k hk => HBS.out k (HYG.out k hk).1 (HYG.out k hk).2)) (below_drew HBE.out) (show w.heap.size ≤ WB.heap.size from HBE.out.size) (by omega) ?_; intro v1 w1 hown hb hg hat; have HBB := Aside0.mk hb; obtain ⟨bk2, cap2, cur2, rfl, hbk2, hcur2, hq⟩ := own_form3 hown (by omega)
                 have hat2 : some bk2 = y.vK.ownBlock ∨ WB.heap.size ≤ bk2 := by
                   rcases hat with e | ⟨b, e, hb2⟩
                   · left; rw [hY, ← e]; rfl
                   · right
                     have : bk2 = b := by simpa [Value.ownBlock] using e
                     have : WB.heap.size ≤ b := hb2
                     omega
                 have hgb2 : g ≠ bk2 := fun e => by
                   rcases hat2 with e2 | e2
                   · exact (HYG.out bk2 e2.symm).2 e.symm
                   · have := HSZ.out; omega
                 have hbb2 : bk ≠ bk2 := fun e => by
                   rcases hat2 with e2 | e2
                   · exact hyb (by rw [e]; exact e2)
                   · have := HSZ.out; omega
                 have hg1 : w1.heap[g]? = WB.heap[g]? := hg.block g (show g < WB.heap.size by have := HSZ.out; omega) (by rw [← hY]; exact fun e => (HYG.out g e.symm).2 rfl)
                 have hg2 : w1.heap[bk]? = WB.heap[bk]? := hg.block bk (show bk < WB.heap.size by have := HSZ.out; omega) (by rw [← hY]; exact hyb)
                 have HRg := Aside0.mk (hg1.trans HGS.out)
                 have HRb := Aside0.mk (hg2.trans HCB.out)
                 have e6 : w1.cell? ⟨bk, fr.length * 3 + 2, none⟩ = some (.slice AY y.ks.length cY) := by rw [blk_cell HRb.out]; rw [blk_cell HCB.out] at e5; exact e5
                 have z6 := blk_frozen HRb.out (fr.length * 3 + 2)
                 have HCU := Aside0.mk hcur2
                 have q0 := (blk_cell hcur2 (y.ks.length * 3)).trans ((hq (y.ks.length * 3) (by omega)).trans (inner_z0 HIL.out _ _ _))
                 have q1 := (blk_cell hcur2 (y.ks.length * 3 + 1)).trans ((hq (y.ks.length * 3 + 1) (by omega)).trans (inner_z1 HIL.out _ _ _))
                 have q2 := (blk_cell hcur2 (y.ks.length * 3 + 2)).trans ((hq (y.ks.length * 3 + 2) (by omega)).trans (inner_z2 HIL.out _ _ _))
                 have z0 := blk_frozen hcur2 (y.ks.length * 3)
                 have z1 := blk_frozen hcur2 (y.ks.length * 3 + 1)
                 have z2 := blk_frozen hcur2 (y.ks.length * 3 + 2)
                 have hnk : ((y.ks.length : Int) < (y.ks.length : Int) + 1) = True := eq_true (by omega)
                 have hnk0 : (0 ≤ (y.ks.length : Int)) = True := eq_true (by omega)
                 have HOWN := Aside0.mk hown
                 have HGR := Aside0.mk hg
                 have HAT := Aside0.mk hat2
                 clear hown hb hg hat hat2 hg1 hg2 hcur2 hq)
  all_goals
    go_wp2_with fail
    go_ret
    refine ⟨rfl, _, _, TSt.ended HT.out HF0.out HC.out HCUR.out HIN.out HRP.out HOWN.out HCU.out ?_ ?_ ?_ ?_ ?_ ?_⟩
    · exact HAT.out.imp id (fun e => by have := HSZ.out; omega)
    · repeat (first | with_reducible exact HBB.out | with_reducible refine Below.setCell (p := ⟨bk, _, none⟩) ?_ hbk _ | with_reducible refine Below.setCell (p := ⟨bk2, _, none⟩) ?_ hbk2 _)
    · have HRg := (show RSt w1 g #[.slice (some ⟨bk, 0, none⟩) (fr.length + 1) cap, .string ⟨#[]⟩, .slice none 0 0, .slice none 0 0, .bool false] from HRg.out)
      first
        | with_reducible exact RSt.far (RSt.far (RSt.far (RSt.far HRg hgb2 _) hgb2 _) hgb2 _) hgb _
        | with_reducible exact RSt.far (RSt.far (RSt.far (RSt.far HRg hgb _) hgb2 _) hgb2 _) hgb2 _
    · repeat (first | with_reducible exact HRb.out | with_reducible refine blk_far (p := ⟨bk2, _, none⟩) ?_ (show bk ≠ bk2 from hbb2) _ | with_reducible refine blk_set ?_ _ _)
    · rw [hL, hK]
      repeat (first | with_reducible exact HCU.out | with_reducible refine blk_far (p := ⟨bk, _, none⟩) ?_ (show bk2 ≠ bk from Ne.symm hbb2) _ | with_reducible refine blk_set ?_ _ _)
    · intro k hk hkg hkb hkb2 hko
      have h1 : w1.heap[k]? = wr.heap[k]? := (HGR.out.block k (show k < WB.heap.size by have := HSZ.out; omega) (by rw [← hY]; exact hko)).trans (HBS.out k hk hkg)
      rw [← h1]
      repeat (first | with_reducible rfl | rw [Below.heap_setCell _ ⟨bk, _, none⟩ _ k hkb] | rw [Below.heap_setCell _ ⟨bk2, _, none⟩ _ k hkb2])
end Go.Proofs.YtdojmdbaiddkgaaGreatDoor.Print
end
section
set_option linter.unusedVariables false
set_option linter.unusedSimpArgs false
namespace Go.Proofs.YtdojmdbaiddkgaaGreatDoor.Print
open Go.RowKit Go.Proofs.YtdojmdbaiddkgaaGreatDoorW.PrintWords Go.Proofs.YtdojmdbaiddkgaaGreatDoorW.PrintLast Go.Proofs.YtdojmdbaiddkgaaGreatDoorW.PrintMore
abbrev PLine := S49
theorem frc_set1 (fr : List Fr) (x : Fr) (u : Value) : (frc (fr ++ [x])).set (fr.length * 3 + 1) u = frc (fr ++ [{ x with vL := u }]) := by
  rw [frc_append, frc_append, List.set_append_right _ _ (by rw [frc_len]; omega), frc_len, show fr.length * 3 + 1 - fr.length * 3 = 1 by omega]
  rfl
theorem typesLE : ∀ q, q ∈ k49.E → q ≠ 65 := by decide
theorem typesPR : ∀ q, q ∈ 77 :: k77.E → q ≠ 65 := by decide
/-- The row of lines, one more in it (three cells each). -/
theorem TSt.lined {w : World} {g : Nat} {fr : List Fr} {x : Fr} {bk cap b2 : Nat} {vP v2 : Value} {p : PLine} {w0 wr w1 w' : World} {cur : Array Value} {inner : List Value} {f : Nat → Nat} (h : TSt w g (fr ++ [x]) (.slice (some ⟨bk, 0, none⟩) (fr.length + 1) cap) w0)
    (f0 : f bk = 0) (hc : Cols w0 w.heap.size f (fr ++ [x])) (hcur : w0.heap[bk]? = some (.cells cur 31 (0, 0))) (hbel : Below w0.heap.size w0 wr)
    (hP : Kd.R k77 77 wr w0.heap.size (fun _ => True) vP p.f1)
    (hin : w0.ownsRow w.heap.size 49 3 x.vL x.ls.length inner) (hr : Reps (k49.M w0 w.heap.size (fun k => f k = 2 * fr.length + 1 ∧ some k ≠ x.vL.ownBlock)) 3 x.ls inner)
    (hown : w1.ownsRow w.heap.size 49 3 v2 (x.ls.length + 1) (inner ++ [.string p.f0, vP, .string p.f2])) (hb2 : v2.ownBlock = some b2)
    (hat : some b2 = x.vL.ownBlock ∨ wr.heap.size ≤ b2) (hB : Below w.heap.size w w') (hst : RSt w' g #[.slice (some ⟨bk, 0, none⟩) (fr.length + 1) cap, .string ⟨#[]⟩, .slice none 0 0, .slice none 0 0, .bool false])
    (hbk : w'.heap[bk]? = some (.cells (cur.setIfInBounds (fr.length * 3 + 1) v2) 31 (0, 0))) (hbk2 : w'.heap[b2]? = w1.heap[b2]?)
    (hm : ∀ k, k < wr.heap.size → k ≠ g → k ≠ bk → k ≠ b2 → some k ≠ x.vL.ownBlock → w'.heap[k]? = wr.heap[k]?) :
    TSt w g (fr ++ [⟨x.nm, v2, x.ls ++ [p], x.vK, x.ks⟩]) (.slice (some ⟨bk, 0, none⟩) (fr.length + 1) cap) w' := by
  have hbl : bk < w0.heap.size := blk_lt hcur
  have hcx := hc fr.length x (by simp)
  have hle := hbel.size
  have h2c : f b2 = 2 * fr.length + 1 ∧ b2 < w0.heap.size ∨ wr.heap.size ≤ b2 := by
    rcases hat with e | e
    · left
      refine ⟨hcx.1.1 b2 e.symm, ?_⟩
      obtain ⟨cells, hcl⟩ := own_typed hin b2 e.symm
      exact blk_lt hcl
    · exact .inr e
  let f' : Nat → Nat := fun k => if k < w0.heap.size then f k else 2 * fr.length + 1
  have hf1 : ∀ k c, k < w0.heap.size → f k = c → f' k = c := fun k c hk hc => by
    show (if k < w0.heap.size then _ else _) = c
    rw [if_pos hk]; exact hc
  have hf2 : ∀ k, w0.heap.size ≤ k → f' k = 2 * fr.length + 1 := fun k hk => by
    show (if k < w0.heap.size then _ else _) = _
    rw [if_neg (by omega)]
  have hm0 : ∀ k, k < w0.heap.size → k ≠ g → k ≠ bk → k ≠ b2 → some k ≠ x.vL.ownBlock → w'.heap[k]? = w0.heap[k]? := fun k hk h1 h2 h3 h4 => (hm k (by omega) h1 h2 h3 h4).trans (hbel.block k hk)
  have hmv : ∀ k c, f k = c → c ≠ 0 → c ≠ 2 * fr.length + 1 → k < w0.heap.size → k ≠ g → w'.heap[k]? = w0.heap[k]? := fun k c hk h0 h2 hl hg => hm0 k hl hg (fun e => by subst e; omega) (fun e => by subst e; omega) (fun e => by have := hcx.1.1 k e.symm; omega)
  refine ⟨hst, h.hg, ?_, ⟨f', fun k hk => ?_, ?_⟩, hB⟩
  · have h1 := h.own
    rw [List.length_append, List.length_singleton] at h1
    have h2 := own_cell3 (j := fr.length * 3 + 1) h1 hcur (by omega) hbk
    rw [frc_set1, frc_append] at h2
    rw [List.length_append, List.length_singleton, frc_append]
    exact h2
  · obtain rfl : bk = k := by simpa [Value.ownBlock] using hk
    exact hf1 bk 0 hbl f0
  · refine Cols.snoc (fun i z hz => ?_) ?_ ?_
    · have hil : i < fr.length := (List.getElem?_eq_some_iff.1 hz).1
      obtain ⟨q1, q2⟩ := hc i z (by rw [List.getElem?_append_left hil]; exact hz)
      exact ⟨R_stepG q1 h.st typesLR (fun k hk hl hg => hmv k _ hk (by omega) (by omega) hl hg) (fun k hk hl => hf1 k _ hl hk), R_stepG q2 h.st typesTR (fun k hk hl hg => hmv k _ hk (by omega) (by omega) hl hg) (fun k hk hl => hf1 k _ hl hk)⟩
    · have gP : Kd.R k77 77 w' w.heap.size (fun k => f' k = 2 * fr.length + 1 ∧ some k ≠ v2.ownBlock) vP p.f1 := by
        have h1 := Kd.R_bound hP
        have h2 : RSt wr g #[.slice (some ⟨bk, 0, none⟩) (fr.length + 1) cap, .string ⟨#[]⟩, .slice none 0 0, .slice none 0 0, .bool false] := (hbel.block g h.gl).trans h.st
        have hlo : w.heap.size ≤ w0.heap.size := h.bel.size
        refine Kd.R_lower (R_stepG (ok' := fun k => f' k = 2 * fr.length + 1 ∧ some k ≠ v2.ownBlock) h1 h2 typesPR (fun k hk hl hg => ?_) (fun k hk hl => ⟨hf2 k hk.2.1, fun e => ?_⟩)) hlo
        · have hge := hk.2.1
          refine hm k hl hg (fun e => by omega) (fun e => ?_) (fun e => ?_)
          · rcases h2c with ⟨_, e2⟩ | e2 <;> omega
          · obtain ⟨cells, hcl⟩ := own_typed hin k e.symm
            have := blk_lt hcl; omega
        · rw [hb2] at e
          have e : k = b2 := by simpa using e
          have := hk.2.1
          rcases h2c with ⟨_, e2⟩ | e2 <;> omega
      refine ⟨fun k hk => ?_, inner ++ [.string p.f0, vP, .string p.f2], ?_, ?_⟩
      · rw [hb2] at hk
        obtain rfl : b2 = k := by simpa using hk
        rcases h2c with ⟨e, hl⟩ | e
        · exact hf1 b2 _ hl e
        · exact hf2 b2 (by omega)
      · rw [List.length_append, List.length_singleton]
        refine own_move hown (fun k hk => ?_)
        rw [hb2] at hk
        obtain rfl : b2 = k := by simpa using hk
        exact hbk2
      · refine Reps.snoc (Reps.imp_ hr (fun q c hp => ?_)) (k49_mkM w' w.heap.size _ p gP) rfl
        have hb := k49.M_bound hp
        refine k49.M_mono (fun k hk => ?_) (k49.M_move (fun k hk => ?_) hb)
        · obtain ⟨⟨k1, k2⟩, k3, k4, q, hq, cells, hcl⟩ := hk
          refine ⟨hf1 k _ k4 k1, fun e => ?_⟩
          rw [hb2] at e
          have e : k = b2 := by simpa using e
          rcases hat with e3 | e3
          · exact k2 (by rw [e]; exact e3)
          · omega
        · obtain ⟨⟨k1, k2⟩, k3, k4, q, hq, cells, hcl⟩ := hk
          refine hm0 k k4 (fun e => ?_) (fun e => ?_) (fun e => ?_) k2
          · subst e
            have := h.st
            unfold RSt at this
            rw [hcl] at this
            have e2 : q = 65 := by simpa using congrArg (fun o => match o with | some (Obj.cells _ t _) => t | _ => 0) this
            exact typesLE q hq e2
          · subst e; omega
          · subst e
            rcases hat with e | e
            · exact k2 e
            · omega
    · exact R_stepG hcx.2 h.st typesTR (fun k hk hl hg => hmv k _ hk (by omega) (by omega) hl hg) (fun k hk hl => hf1 k _ hl hk)
end Go.Proofs.YtdojmdbaiddkgaaGreatDoor.Print
end
section
set_option linter.unusedVariables false
set_option linter.unusedSimpArgs false
namespace Go.Proofs.YtdojmdbaiddkgaaGreatDoor.Print
open Go.RowKit Go.Proofs.YtdojmdbaiddkgaaGreatDoorW.PrintWords Go.Proofs.YtdojmdbaiddkgaaGreatDoorW.PrintLast Go.Proofs.YtdojmdbaiddkgaaGreatDoorW.PrintMore
def greatB (c : UInt8) : UInt8 := if 97 ≤ c.toNat ∧ c.toNat ≤ 122 then c - 32 else c
theorem greatB_yes (c : UInt8) (h : 97 ≤ c.toNat) (h2 : c.toNat ≤ 122) : ((greatB c).toNat : Int) = (c.toNat : Int) - 32 := by
  unfold greatB
  rw [if_pos ⟨h, h2⟩, UInt8.toNat_sub_of_le c 32 (by rw [UInt8.le_iff_toNat_le]; show 32 ≤ _; omega)]
  show ((c.toNat - 32 : Nat) : Int) = _
  omega
theorem greatB_no (c : UInt8) (h : ¬ (97 ≤ c.toNat ∧ c.toNat ≤ 122)) : greatB c = c := if_neg h
theorem gcv_blk (s : ByteArray) (w : World) : ∃ w' cap cs, (convert 9 82 (.string s)).run Tryz.prog w = .ok (.slice (some ⟨w.heap.size, 0, none⟩) s.size cap) w' ∧ Below w.heap.size w w' ∧ w'.heap[w.heap.size]? = some (.cells cs 5 (cs.size, cs.size + 1)) ∧ s.size ≤ cs.size ∧ (∀ j, j < s.size → cs[j]? = some (.int .u8 ((s.data.toList.getD j 0).toNat : Nat))) := by
  refine ⟨Lib.bytesWorld w 5 s, _, _, Lib.run_convert_string_bytes w 9 82 5 s Tryz.underlying9 Tryz.underlying82 Tryz.underlying5, ⟨?_, ?_, ?_, ?_, fun j hj => Lib.bytesWorld_at_old w 5 s j hj⟩, Lib.bytesWorld_at_new w 5 s, ?_, fun j hj => ?_⟩
  · unfold Lib.bytesWorld World.freeze; split <;> rfl
  · unfold Lib.bytesWorld World.freeze; split <;> rfl
  · unfold Lib.bytesWorld World.freeze; split <;> rfl
  · rw [Lib.bytesWorld_size]; omega
  · unfold Lib.bytesCells; rw [Array.size_append, Array.size_map]; show s.data.size ≤ _; omega
  · have h := Lib.bytesWorld_cell w 5 s j hj
    simp only [World.cell?, Lib.bytesWorld_at_new] at h
    simpa using h
theorem gblk_cell {w : World} {g : Nat} {cs : Array Value} {t : TypeId} {fr : Nat × Nat} (h : w.heap[g]? = some (.cells cs t fr)) (j : Nat) : w.cell? ⟨g, j, none⟩ = cs[j]? := by simp [World.cell?, h]
theorem gblk_froz {w : World} {g : Nat} {cs : Array Value} {t : TypeId} (h : w.heap[g]? = some (.cells cs t (cs.size, cs.size + 1))) (j : Nat) (hj : j < cs.size) : w.frozen? ⟨g, j, none⟩ = false := by simp [World.frozen?, h]; omega
theorem gblk_set {w : World} {g : Nat} {t : TypeId} {cs : Array Value} {fr : Nat × Nat} (h : w.heap[g]? = some (.cells cs t fr)) (i : Nat) (u : Value) : (w.setCell ⟨g, i, none⟩ u).heap[g]? = some (.cells (cs.setIfInBounds i u) t fr) := by
  simp [World.setCell, Array.getElem?_modify, h]
def greatS (s : ByteArray) : ByteArray := ⟨(s.data.toList.map greatB).toArray⟩
/-- The bytes, great up to a place. -/
structure GrB (s : ByteArray) (G : Nat) (i : Nat) (w : World) : Prop where
  ex : ∃ cs : Array Value, w.heap[G]? = some (.cells cs 5 (cs.size, cs.size + 1)) ∧ s.size ≤ cs.size ∧ (∀ j, j < i → cs[j]? = some (.int .u8 ((greatB (s.data.toList.getD j 0)).toNat : Nat))) ∧ (∀ j, i ≤ j → j < s.size → cs[j]? = some (.int .u8 ((s.data.toList.getD j 0).toNat : Nat)))
theorem grB_step {s : ByteArray} {G i : Nat} {w : World} (h : GrB s G i w) (hi : i < s.size) (u : Value) (hu : u = .int .u8 ((greatB (s.data.toList.getD i 0)).toNat : Nat)) : GrB s G (i + 1) (w.setCell ⟨G, i, none⟩ u) := by
  obtain ⟨cs, h1, h2, h3, h4⟩ := h.ex
  refine ⟨cs.setIfInBounds i u, ?_, by rw [Array.size_setIfInBounds]; exact h2, fun j hj => ?_, fun j hj hjs => ?_⟩
  · rw [Array.size_setIfInBounds]; exact gblk_set h1 i u
  · by_cases e : j = i
    · subst e; rw [Array.getElem?_setIfInBounds_self_of_lt (by omega), hu]
    · rw [Array.getElem?_setIfInBounds_ne (by omega)]; exact h3 j (by omega)
  · rw [Array.getElem?_setIfInBounds_ne (by omega)]; exact h4 j (by omega) hjs
theorem grB_skip {s : ByteArray} {G i : Nat} {w : World} (h : GrB s G i w) (hi : i < s.size) (hu : greatB (s.data.toList.getD i 0) = s.data.toList.getD i 0) : GrB s G (i + 1) w := by
  obtain ⟨cs, h1, h2, h3, h4⟩ := h.ex
  refine ⟨_, h1, h2, fun j hj => ?_, fun j hj hjs => h4 j (by omega) hjs⟩
  by_cases e : j = i
  · subst e; rw [hu]; exact h4 j (Nat.le_refl _) hi
  · exact h3 j (by omega)
set_option maxHeartbeats 4000000 in
set_option maxRecDepth 100000 in
theorem great_walk (s : ByteArray) (w : World) (hs : s.size ≤ 9223372036854775807) :
    Calls Tryz.prog 56 #[.string s] w fun e w' => e = .returned (.string (greatS s)) ∧ Below w.heap.size w w' := by
  obtain ⟨w1, cap, cs, hrun, hB1, hb, hle, hcs⟩ := gcv_blk s w
  obtain ⟨G, hG⟩ : ∃ G, G = w.heap.size := ⟨_, rfl⟩
  rw [← hG] at hrun hb
  have HG := Aside0.mk hG
  have HS := Aside0.mk (show GrB s G 0 w1 from ⟨cs, hb, hle, fun j hj => by omega, fun j _ hj => hcs j hj⟩)
  have HB := Aside0.mk hB1
  clear hb hle hcs hB1 hG
  go_enter Tryz.func56, Tryz.ntmps56
  go_wp2_with fail
  clear hrun
  go_loopg [4, 5, 10] s.size (fun g v4 v5 v10 wr => ∃ i : Nat, v10 = .int .i64 i ∧ i ≤ s.size ∧ Aside0 (s.size ≤ i + g) ∧ Aside0 (GrB s G i wr) ∧ Aside0 (Below w.heap.size w wr))
  case atStart => exact ⟨0, rfl, by omega, ⟨by omega⟩, HS, HB⟩
  case round =>
    obtain ⟨i, rfl, hi, HK, HC, HBr⟩ := hrel
    by_cases hlt : i < s.size
    · cases gk with
      | zero => exfalso; have := HK.out; omega
      | succ g =>
      obtain ⟨cs, h1, h2, h3, h4⟩ := HC.out.ex
      obtain ⟨c, hc⟩ : ∃ c, c = s.data.toList.getD i 0 := ⟨_, rfl⟩
      have hold : wr.cell? ⟨G, i, none⟩ = some (.int .u8 ((c.toNat : Nat) : Int)) := by rw [gblk_cell h1, h4 i (Nat.le_refl _) hlt, ← hc]
      have hfz : wr.frozen? ⟨G, i, none⟩ = false := gblk_froz h1 i (by omega)
      have hc2 : c.toNat < 256 := c.toNat_lt
      have HCc := Aside0.mk hc
      clear h1 h2 h3 h4 hc
      by_cases hg1 : 97 ≤ c.toNat
      · by_cases hg2 : c.toNat ≤ 122
        · have hy := greatB_yes c hg1 hg2
          have HY := Aside0.mk hy
          clear hy
          have k1 : decide ((c.toNat : Int) ≥ 97) = true := decide_eq_true (by omega)
          have k2 : decide ((c.toNat : Int) ≤ 122) = true := decide_eq_true (by omega)
          go_wp2_with fail
          go_roundg g
          case measure => have := HK.out; omega
          case rel => exact ⟨i + 1, by first | rfl | (go_num; done), by omega, ⟨by have := HK.out; omega⟩, ⟨grB_step HC.out hlt _ (by rw [← HCc.out, HY.out])⟩, ⟨Below.setCell HBr.out (by have := HG.out; show _ ≤ G; omega) _⟩⟩
        · have hy := greatB_no c (by omega)
          have HY := Aside0.mk hy
          clear hy
          have k1 : decide ((c.toNat : Int) ≥ 97) = true := decide_eq_true (by omega)
          have k2 : decide ((c.toNat : Int) ≤ 122) = false := decide_eq_false (by omega)
          go_wp2_with fail
          go_roundg g
          case measure => have := HK.out; omega
          case rel => exact ⟨i + 1, by first | rfl | (go_num; done), by omega, ⟨by have := HK.out; omega⟩, ⟨grB_skip HC.out hlt (by rw [← HCc.out, HY.out])⟩, HBr⟩
      · have hy := greatB_no c (by omega)
        have HY := Aside0.mk hy
        clear hy
        have k1 : decide ((c.toNat : Int) ≥ 97) = false := decide_eq_false (by omega)
        go_wp2_with fail
        go_roundg g
        case measure => have := HK.out; omega
        case rel => exact ⟨i + 1, by first | rfl | (go_num; done), by omega, ⟨by have := HK.out; omega⟩, ⟨grB_skip HC.out hlt (by rw [← HCc.out, HY.out])⟩, HBr⟩
    · have hin : i = s.size := by omega
      subst hin
      have hl : (s.data.toList.map greatB).length = s.size := by simp
      have hcv := run_convert_bytes_back (P := Tryz.prog) wr 82 9 5 ⟨G, 0, none⟩ cap (s.data.toList.map greatB) Tryz.underlying82 Tryz.underlying5 Tryz.underlying9 (fun j hj => by
        obtain ⟨cs, h1, h2, h3, h4⟩ := HC.out.ex
        have ha : (⟨G, 0, none⟩ : Addr).add j = ⟨G, j, none⟩ := by
          unfold Addr.add
          split
          · rename_i h8; subst h8; rfl
          · simp
        have hj2 : j < s.size := by rw [hl] at hj; exact hj
        rw [ha, gblk_cell h1, h3 j hj2, List.getElem_map, List.getD_eq_getElem?_getD, List.getElem?_eq_getElem (by rw [Array.length_toList]; exact hj2)]; rfl)
      rw [hl] at hcv
      clear hl
      go_wp2_with fail
      go_ret
      exact ⟨rfl, HBr.out⟩
def line_Great.f (a0 : ByteArray) : Option ByteArray := if a0.size ≤ 9223372036854775807 then some (greatS a0) else none
theorem line_Great.calls (a0 : ByteArray) (r : ByteArray) (w : World) (hG : GG w) (h : line_Great.f a0 = some r) :
    Calls Tryz.prog 56 #[.string a0] w fun e w' => e = .returned (.string r) ∧ Below w.heap.size w w' := by
  unfold line_Great.f at h
  by_cases hs : a0.size ≤ 9223372036854775807
  · rw [if_pos hs] at h
    obtain rfl := Option.some.inj h
    exact great_walk a0 w hs
  · rw [if_neg hs] at h; cases h
end Go.Proofs.YtdojmdbaiddkgaaGreatDoor.Print
end
section
set_option linter.unusedVariables false
set_option linter.unusedSimpArgs false
namespace Go.Proofs.YtdojmdbaiddkgaaGreatDoor.Print
open Go.RowKit Go.Proofs.YtdojmdbaiddkgaaGreatDoorW.PrintWords Go.Proofs.YtdojmdbaiddkgaaGreatDoorW.PrintLast Go.Proofs.YtdojmdbaiddkgaaGreatDoorW.PrintMore
abbrev tgBegin : ByteArray := ⟨#[66, 69, 71, 73, 78]⟩
abbrev tgEnd : ByteArray := ⟨#[69, 78, 68]⟩
theorem tgB_list : tgBegin.toList = ([66, 69, 71, 73, 78] : List UInt8) := by decide +kernel
theorem tgE_list : tgEnd.toList = ([69, 78, 68] : List UInt8) := by decide +kernel
theorem notB {n : ByteArray} (h : n ≠ tgBegin) : ¬ n.toList = ([66, 69, 71, 73, 78] : List UInt8) := fun e => h (ba_toList (e.trans tgB_list.symm))
theorem notE {n : ByteArray} (h : n ≠ tgEnd) : ¬ n.toList = ([69, 78, 68] : List UInt8) := fun e => h (ba_toList (e.trans tgE_list.symm))
theorem RSt.below {w w' : World} {g : Nat} {cs : Array Value} (h : RSt w g cs) (hb : Below w.heap.size w w') : RSt w' g cs := (hb.block g (blk_lt h)).trans h
set_option maxHeartbeats 2000000 in
set_option maxRecDepth 100000 in
theorem line_app (w : World) (g : Nat) (fr : List Fr) (x : Fr) (v : Value) (w0 wr : World) (p : PLine) (AP : Option Addr) (cP : Nat) (gr : ByteArray) (h : TSt w g (fr ++ [x]) v w0) (hbel : Below w0.heap.size w0 wr)
    (hP : Kd.R k77 77 wr w0.heap.size (fun _ => True) (.slice AP p.f1.length cP) p.f1) (hG : GG wr) (hgr : line_Great.f p.f2 = some gr) (hk0 : x.ks = []) (hb1 : p.f0 ≠ tgBegin) (hb2 : p.f0 ≠ tgEnd) (hls : x.ls.length ≤ 1000000) (hn : fr.length ≤ 1000) :
    Calls Tryz.prog 29 #[.pointer (some ⟨g, 0, none⟩), .agg #[.string p.f0, .slice AP p.f1.length cP, .string p.f2]] wr fun e w' => e = .returned (.int .i64 0) ∧ ∃ v1, TSt w g (fr ++ [⟨x.nm, v1, x.ls ++ [p], x.vK, x.ks⟩]) v w' := by
  have hgl : g < wr.heap.size := Nat.lt_of_lt_of_le h.gl hbel.size
  obtain ⟨bk, cap, cur, hv, hbk, hcap, hcur, e0, e1, e2⟩ := last_cells h.own
  subst hv
  obtain ⟨f, f0, hc⟩ := h.col
  have hcx := hc fr.length x (by simp)
  obtain ⟨AL, cL, hL⟩ := Kd.R_slice hcx.1
  obtain ⟨AK, cK, hK⟩ := Kd.R_slice hcx.2
  rw [hk0] at hK
  replace hK : x.vK = .slice AK 0 cK := hK
  rw [hL] at e1
  rw [hK] at e2
  have hbl : bk < wr.heap.size := Nat.lt_of_lt_of_le (blk_lt hcur) hbel.size
  obtain ⟨hl0, inner, hin, hrp⟩ := hcx.1
  have HT := Aside0.mk h
  have HF0 := Aside0.mk (f0 bk rfl)
  have HC := Aside0.mk hc
  have HCUR := Aside0.mk hcur
  have HIN := Aside0.mk hin
  have HRP := Aside0.mk hrp
  have HL0 := Aside0.mk hl0
  have HP := Aside0.mk hP
  have HBEL := Aside0.mk hbel
  have HG := Aside0.mk hG
  have HGRT := Aside0.mk hgr
  have HR : Aside0 (RSt wr g #[.slice (some ⟨bk, 0, none⟩) (fr.length + 1) cap, .string ⟨#[]⟩, .slice none 0 0, .slice none 0 0, .bool false]) := ⟨h.st.below hbel⟩
  have HCB : Aside0 (wr.heap[bk]? = some (.cells cur 31 (0, 0))) := ⟨(hbel.block bk (blk_lt hcur)).trans hcur⟩
  have e1' := e1
  have e2' := e2
  rw [blk_cell hcur] at e1' e2'
  have hbd : tree_bound.f p.f0 = some false := by
    unfold tree_bound.f
    rw [if_neg (notB hb1)]
    exact congrArg some (beq_eq_false_iff_ne.2 (notE hb2))
  have HBD := Aside0.mk hbd
  have hn1 : (p.f0.toList == ([66, 69, 71, 73, 78] : List UInt8)) = false := beq_eq_false_iff_ne.2 (notB hb1)
  have hn2 : (p.f0.toList == ([69, 78, 68] : List UInt8)) = false := beq_eq_false_iff_ne.2 (notE hb2)
  have hz : ((fr.length : Int) + 1 == 0) = false := beq_eq_false_iff_ne.2 (by omega)
  have hw2 : IntKind.i64.wrap ((fr.length : Int) + 1 - 1) = (fr.length : Int) := by rw [i64_w]; unfold wrap64; omega
  have hni2 : ((fr.length : Int) < (fr.length : Int) + 1) = True := eq_true (by omega)
  have hn1' : (0 ≤ (fr.length : Int)) = True := eq_true (by omega)
  have hnot : ∀ (x : Bool) (w : World), (Op.unary .not (.bool x)).run Tryz.prog w = .ok (.bool (!x)) w := fun _ _ => rfl
  clear h hbel f0 hc hcx hcur hin hrp hl0 hP hG hgr hbd e0 e1 e2
  go_enter Tryz.func29, Tryz.ntmps29
  go_wp2_with fail
  go_at_call 56
  refine (line_Great.calls p.f2 gr _ (GG.below HG.out (by repeat (first | exact Below.refl _ _ | apply below_alloc | apply pw_below_drewN | apply below_drew1))) HGRT.out).mono ?_
  rintro e w2 ⟨rfl, hB⟩
  have HB : Aside0 (Below wr.heap.size wr w2) := ⟨(below_alloc (Below.refl wr.heap.size wr) _).trans (hB.mono (by simp))⟩
  have hbox := (hB.block wr.heap.size (by simp)).trans (heap_alloc_new wr _)
  have hr2 := HR.out.below HB.out
  have HR2 := Aside0.mk hr2
  have hcb2 := (HB.out.block bk hbl).trans HCB.out
  have HCB2 := Aside0.mk hcb2
  have x0 := blk_cell hbox 0
  have x1 := blk_cell hbox 1
  have x2 := blk_cell hbox 2
  have y0 := blk_cell hr2 0
  have y4 := blk_cell hr2 4
  have d1 := (blk_cell hcb2 (fr.length * 3 + 1)).trans e1'
  have d2 := (blk_cell hcb2 (fr.length * 3 + 2)).trans e2'
  have zf1 := blk_frozen hcb2 (fr.length * 3 + 1)
  clear hB hbox hr2 hcb2 e1' e2'
  go_wp2_with (first | (go_at_call 46; refine (tree_bound.calls p.f0 false _ (by repeat (first | exact GG.below HG.out HB.out | apply GG.drewN | apply GG.drew)) HBD.out).mono ?_; rintro e w' ⟨rfl, ⟨nd, rfl⟩⟩))
  go_quiet (fail)
  go_wp2_with fail
  have HB3 : Aside0 (Below wr.heap.size wr (w2.drewN (nd + nq))) := ⟨pw_below_drewN HB.out _⟩
  have HR3 : Aside0 (RSt (w2.drewN (nd + nq)) g #[.slice (some ⟨bk, 0, none⟩) (fr.length + 1) cap, .string ⟨#[]⟩, .slice none 0 0, .slice none 0 0, .bool false]) := ⟨HR2.out⟩
  have HCB3 : Aside0 ((w2.drewN (nd + nq)).heap[bk]? = some (.cells cur 31 (0, 0))) := ⟨HCB2.out⟩
  have x0 : (w2.drewN (nd + nq)).cell? ⟨wr.heap.size, 0, none⟩ = some (.string p.f0) := x0
  have x1 : (w2.drewN (nd + nq)).cell? ⟨wr.heap.size, 1, none⟩ = some (.slice AP p.f1.length cP) := x1
  have x2 : (w2.drewN (nd + nq)).cell? ⟨wr.heap.size, 2, none⟩ = some (.string p.f2) := x2
  have d1 : (w2.drewN (nd + nq)).cell? ⟨bk, fr.length * 3 + 1, none⟩ = some (.slice AL x.ls.length cL) := d1
  generalize w2.drewN (nd + nq) = w3 at HB3 HR3 HCB3 x0 x1 x2 d1 ⊢
  clear HB HR2 HCB2 y0 y4 d2 zf1
  have HB := HB3
  have HR2 := HR3
  have HCB2 := HCB3
  clear HB3 HR3 HCB3
  have hx3 : wr.heap.size < w3.heap.size := World.block_lt_of_cell? w3 _ x0
  have hb3 : bk < w3.heap.size := Nat.lt_of_lt_of_le hbl HB.out.size
  have x0a : ∀ o, (w3.alloc o).cell? ⟨wr.heap.size, 0, none⟩ = _ := fun o => (World.cell?_alloc_lt _ _ _ hx3).trans x0
  have x1a : ∀ o, (w3.alloc o).cell? ⟨wr.heap.size, 1, none⟩ = _ := fun o => (World.cell?_alloc_lt _ _ _ hx3).trans x1
  have x2a : ∀ o, (w3.alloc o).cell? ⟨wr.heap.size, 2, none⟩ = _ := fun o => (World.cell?_alloc_lt _ _ _ hx3).trans x2
  have hlb : ∀ k, x.vL.ownBlock = some k → k < w0.heap.size ∧ k ≠ g ∧ k ≠ bk := fun k hk => by
    obtain ⟨cells, hcl⟩ := own_typed HIN.out k hk
    refine ⟨blk_lt hcl, fun e => ?_, fun e => ?_⟩
    · have := HT.out.st
      unfold RSt at this
      rw [← e, hcl] at this
      simp at this
    · have := HL0.out k hk; have := HF0.out; subst e; omega
  have d1a : ∀ o, (w3.alloc o).cell? ⟨bk, fr.length * 3 + 1, none⟩ = _ := fun o => (World.cell?_alloc_lt _ _ _ hb3).trans d1
  have HLB := Aside0.mk hlb
  clear hlb
  go_region_law (refine step_append_cells (w0 := w) (W := w3.drew) w.heap.size (by rfl) (.tmp 76) (.tmp 78) 28 49 (.agg #[.string ⟨#[]⟩, .slice none 0 0, .string ⟨#[]⟩]) 3 56 (by rfl) Tryz.underlying28 info49 (by rfl) (by decide) (by decide) (.slice AL x.ls.length cL) x.ls.length inner [.string p.f0, .slice AP p.f1.length cP, .string p.f2] (by rfl) (by rfl) rfl (by intro u hu; simp at hu; rcases hu with rfl | rfl | rfl <;> rfl) (by rw [← hL]; exact own_move HIN.out (fun k hk => (HB.out.block k (Nat.lt_of_lt_of_le (HLB.out k hk).1 HBEL.out.size)).trans (HBEL.out.block k (HLB.out k hk).1))) (below_drew (below_then (below_then HT.out.bel HT.out.bel.size HBEL.out) (Nat.le_trans HT.out.bel.size HBEL.out.size) HB.out)) (show w.heap.size ≤ w3.heap.size from Nat.le_trans HT.out.bel.size (Nat.le_trans HBEL.out.size HB.out.size)) (by omega) ?_; intro v1 w1 hown hb hg hat; have HBB := Aside0.mk hb; obtain ⟨b2, cap2, rfl, hbk2, hb2l⟩ := hown.form (by omega)
                 have hat2 : some b2 = x.vL.ownBlock ∨ wr.heap.size ≤ b2 := by
                   rcases hat with e | ⟨b, e, hb2⟩
                   · left; rw [hL, ← e]; rfl
                   · right
                     have : b2 = b := by simpa [Value.ownBlock] using e
                     have h1 : w3.heap.size ≤ b := hb2
                     have := HB.out.size
                     omega
                 have hgb2 : g ≠ b2 := fun e => by
                   rcases hat2 with e2 | e2
                   · exact (HLB.out b2 e2.symm).2.1 e.symm
                   · omega
                 have hbb2 : bk ≠ b2 := fun e => by
                   rcases hat2 with e2 | e2
                   · exact (HLB.out b2 e2.symm).2.2 e.symm
                   · omega
                 have hg1 : w1.heap[g]? = w3.heap[g]? := hg.block g (show g < w3.heap.size from Nat.lt_of_lt_of_le hgl HB.out.size) (by rw [← hL]; exact fun e => (HLB.out g e.symm).2.1 rfl)
                 have hg2 : w1.heap[bk]? = w3.heap[bk]? := hg.block bk hb3 (by rw [← hL]; exact fun e => (HLB.out bk e.symm).2.2 rfl)
                 have HRg := Aside0.mk (hg1.trans HR2.out)
                 have HRb := Aside0.mk (hg2.trans HCB2.out)
                 have d6 : w1.cell? ⟨bk, fr.length * 3 + 1, none⟩ = some (.slice AL x.ls.length cL) := by rw [blk_cell HRb.out]; rw [blk_cell HCB2.out] at d1; exact d1
                 have z6 := blk_frozen HRb.out (fr.length * 3 + 1)
                 have HOWN := Aside0.mk hown
                 have HGR := Aside0.mk hg
                 have HAT := Aside0.mk hat2
                 clear hown hb hg hat hat2 hg1 hg2)
  all_goals
    go_wp2_with fail
    go_ret
    refine ⟨rfl, _, TSt.lined HT.out HF0.out HC.out HCUR.out HBEL.out HP.out HIN.out HRP.out HOWN.out rfl HAT.out ?_ ?_ ?_ ?_ ?_⟩
    · with_reducible exact Below.setCell (p := ⟨bk, _, none⟩) HBB.out hbk _
    · exact RSt.far (show RSt w1 g #[.slice (some ⟨bk, 0, none⟩) (fr.length + 1) cap, .string ⟨#[]⟩, .slice none 0 0, .slice none 0 0, .bool false] from HRg.out) (fun e => by
        have := HCB2.out
        have h2 := HR2.out
        unfold RSt at h2
        rw [e, this] at h2
        simp at h2) _
    · exact blk_set HRb.out _ _
    · exact Below.heap_setCell _ ⟨bk, _, none⟩ _ b2 (Ne.symm hbb2)
    · intro k hk hkg hkb hkb2 hko
      rw [Below.heap_setCell _ ⟨bk, _, none⟩ _ k hkb]
      exact (HGR.out.block k (show k < w3.heap.size from Nat.lt_of_lt_of_le hk HB.out.size) (by rw [← hL]; exact hko)).trans (HB.out.block k hk)
end Go.Proofs.YtdojmdbaiddkgaaGreatDoor.Print
end
section
set_option linter.unusedVariables false
set_option linter.unusedSimpArgs false
namespace Go.Proofs.YtdojmdbaiddkgaaGreatDoor.Print
open Go.RowKit Go.Proofs.YtdojmdbaiddkgaaGreatDoorW.PrintWords Go.Proofs.YtdojmdbaiddkgaaGreatDoorW.PrintLast Go.Proofs.YtdojmdbaiddkgaaGreatDoorW.PrintMore
theorem isB_eq : (tgBegin.toList == ([66, 69, 71, 73, 78] : List UInt8)) = true := by decide +kernel
theorem isE_eq : (tgEnd.toList == ([69, 78, 68] : List UInt8)) = true := by decide +kernel
theorem isE_neB : (tgEnd.toList == ([66, 69, 71, 73, 78] : List UInt8)) = false := by decide +kernel
theorem boundTB : tree_bound.f tgBegin = some true := by decide +kernel
theorem boundTE : tree_bound.f tgEnd = some true := by decide +kernel
set_option maxHeartbeats 2000000 in
set_option maxRecDepth 100000 in
/-- A line that begins a component: what 'begins' does. -/
theorem line_begins (k : Nat) (wr : World) (g n c : Nat) (A AP : Option Addr) (cP : Nat) (a b d : Value) (vl gr nm : ByteArray) (Q : Int → World → Prop) (h : RSt wr g #[.slice A n c, a, b, d, .bool false]) (hG : GG wr) (hgr : line_Great.f vl = some gr) (hnm : line_Name.f k gr = some true) (hB : nm = tgBegin)
    (hQ : ∀ w2, Below wr.heap.size wr w2 → Calls Tryz.prog 57 #[.pointer (some ⟨g, 0, none⟩), .string gr] w2 fun e w' => ∃ z : Int, e = .returned (.int .i64 z) ∧ Q z w') :
    Calls Tryz.prog 29 #[.pointer (some ⟨g, 0, none⟩), .agg #[.string nm, .slice AP 0 cP, .string vl]] wr fun e w' => ∃ z : Int, e = .returned (.int .i64 z) ∧ Q z w' := by
  have hgl : g < wr.heap.size := blk_lt h
  have HG := Aside0.mk hG
  have HGRT := Aside0.mk hgr
  have HNM := Aside0.mk hnm
  have HR := Aside0.mk h
  have HQ := Aside0.mk hQ
  have hn1 : (nm.toList == ([66, 69, 71, 73, 78] : List UInt8)) = true := by rw [hB]; exact isB_eq
  have HBD : Aside0 (tree_bound.f nm = some true) := ⟨by rw [hB]; exact boundTB⟩
  have hnot : ∀ (x : Bool) (w : World), (Op.unary .not (.bool x)).run Tryz.prog w = .ok (.bool (!x)) w := fun _ _ => rfl
  clear h hG hgr hnm hQ hB
  rcases Nat.eq_zero_or_pos n with hn0 | hn0
  all_goals
    have hz : ((n : Int) == 0) = decide (n = 0) := by rw [Bool.eq_iff_iff]; simp
    first | (rw [decide_eq_true hn0] at hz; clear hn0) | (rw [decide_eq_false (by omega)] at hz; clear hn0)
    go_enter Tryz.func29, Tryz.ntmps29
    go_wp2_with fail
    go_at_call 56
    refine (line_Great.calls vl gr _ (GG.below HG.out (by repeat (first | exact Below.refl _ _ | apply below_alloc | apply pw_below_drewN | apply below_drew1))) HGRT.out).mono ?_
    rintro e w2 ⟨rfl, hB⟩
    have HB : Aside0 (Below wr.heap.size wr w2) := ⟨(below_alloc (Below.refl wr.heap.size wr) _).trans (hB.mono (by simp))⟩
    have hbox := (hB.block wr.heap.size (by simp)).trans (heap_alloc_new wr _)
    have hr2 := HR.out.below HB.out
    have x0 := blk_cell hbox 0
    have x1 := blk_cell hbox 1
    have x2 := blk_cell hbox 2
    have y0 := blk_cell hr2 0
    have y4 := blk_cell hr2 4
    clear hB hbox hr2
    go_wp2_with (first | (go_at_call 46; refine (tree_bound.calls nm true _ (by repeat (first | exact GG.below HG.out HB.out | apply GG.drewN | apply GG.drew)) HBD.out).mono ?_; rintro e w' ⟨rfl, ⟨nd, rfl⟩⟩) | (go_at_call 44; refine (line_Name.calls k gr true _ (by repeat (first | exact GG.below HG.out HB.out | apply GG.drewN | apply GG.drew)) HNM.out).mono ?_; rintro e w' ⟨rfl, ⟨nd2, rfl⟩⟩))
    refine (HQ.out _ (pw_below_drewN HB.out _)).mono ?_
    rintro e w3 ⟨z, rfl, hq⟩
    have HQz := Aside0.mk hq
    clear hq x0 x1 x2 y0 y4
    go_wp2_with fail
    go_ret
    exact ⟨z, rfl, HQz.out⟩
set_option maxHeartbeats 2000000 in
set_option maxRecDepth 100000 in
/-- A line that ends a component: what 'ends' does. -/
theorem line_ends (k : Nat) (wr : World) (g n c : Nat) (A AP : Option Addr) (cP : Nat) (a b d : Value) (vl gr nm : ByteArray) (Q : Int → World → Prop) (h : RSt wr g #[.slice A n c, a, b, d, .bool false]) (hG : GG wr) (hgr : line_Great.f vl = some gr) (hnm : line_Name.f k gr = some true) (hB : nm = tgEnd) (hn0 : 0 < n)
    (hQ : ∀ w2, Below wr.heap.size wr w2 → Calls Tryz.prog 58 #[.pointer (some ⟨g, 0, none⟩), .string gr] w2 fun e w' => ∃ z : Int, e = .returned (.int .i64 z) ∧ Q z w') :
    Calls Tryz.prog 29 #[.pointer (some ⟨g, 0, none⟩), .agg #[.string nm, .slice AP 0 cP, .string vl]] wr fun e w' => ∃ z : Int, e = .returned (.int .i64 z) ∧ Q z w' := by
  have hgl : g < wr.heap.size := blk_lt h
  have HG := Aside0.mk hG
  have HGRT := Aside0.mk hgr
  have HNM := Aside0.mk hnm
  have HR := Aside0.mk h
  have HQ := Aside0.mk hQ
  have hn1 : (nm.toList == ([66, 69, 71, 73, 78] : List UInt8)) = false := by rw [hB]; exact isE_neB
  have hn2 : (nm.toList == ([69, 78, 68] : List UInt8)) = true := by rw [hB]; exact isE_eq
  have HBD : Aside0 (tree_bound.f nm = some true) := ⟨by rw [hB]; exact boundTE⟩
  have hnot : ∀ (x : Bool) (w : World), (Op.unary .not (.bool x)).run Tryz.prog w = .ok (.bool (!x)) w := fun _ _ => rfl
  clear h hG hgr hnm hQ hB
  have hz : ((n : Int) == 0) = false := beq_eq_false_iff_ne.2 (by omega)
  all_goals
    go_enter Tryz.func29, Tryz.ntmps29
    go_wp2_with fail
    go_at_call 56
    refine (line_Great.calls vl gr _ (GG.below HG.out (by repeat (first | exact Below.refl _ _ | apply below_alloc | apply pw_below_drewN | apply below_drew1))) HGRT.out).mono ?_
    rintro e w2 ⟨rfl, hB⟩
    have HB : Aside0 (Below wr.heap.size wr w2) := ⟨(below_alloc (Below.refl wr.heap.size wr) _).trans (hB.mono (by simp))⟩
    have hbox := (hB.block wr.heap.size (by simp)).trans (heap_alloc_new wr _)
    have hr2 := HR.out.below HB.out
    have x0 := blk_cell hbox 0
    have x1 := blk_cell hbox 1
    have x2 := blk_cell hbox 2
    have y0 := blk_cell hr2 0
    have y4 := blk_cell hr2 4
    clear hB hbox hr2
    go_wp2_with (first | (go_at_call 46; refine (tree_bound.calls nm true _ (by repeat (first | exact GG.below HG.out HB.out | apply GG.drewN | apply GG.drew)) HBD.out).mono ?_; rintro e w' ⟨rfl, ⟨nd, rfl⟩⟩) | (go_at_call 44; refine (line_Name.calls k gr true _ (by repeat (first | exact GG.below HG.out HB.out | apply GG.drewN | apply GG.drew)) HNM.out).mono ?_; rintro e w' ⟨rfl, ⟨nd2, rfl⟩⟩))
    refine (HQ.out _ (pw_below_drewN HB.out _)).mono ?_
    rintro e w3 ⟨z, rfl, hq⟩
    have HQz := Aside0.mk hq
    clear hq x0 x1 x2 y0 y4
    go_wp2_with fail
    go_ret
    exact ⟨z, rfl, HQz.out⟩
set_option maxHeartbeats 2000000 in
set_option maxRecDepth 100000 in
/-- Refused: all is read, or nothing is open and the line begins nothing. -/
theorem line_early (wr : World) (g n c m : Nat) (A AP : Option Addr) (cP : Nat) (a b d : Value) (over : Bool) (vl gr nm : ByteArray) (h : RSt wr g #[.slice A n c, a, b, d, .bool over]) (hG : GG wr) (hgr : line_Great.f vl = some gr) (hb : over = true ∨ over = false ∧ n = 0 ∧ nm ≠ tgBegin) :
    Calls Tryz.prog 29 #[.pointer (some ⟨g, 0, none⟩), .agg #[.string nm, .slice AP m cP, .string vl]] wr fun e w' => e = .returned (.int .i64 5) ∧ Below wr.heap.size wr w' := by
  have hgl : g < wr.heap.size := blk_lt h
  have HG := Aside0.mk hG
  have HGRT := Aside0.mk hgr
  have HR := Aside0.mk h
  clear h hG hgr
  rcases hb with rfl | ⟨rfl, rfl, hb⟩
  all_goals
    (try have hn1 : (nm.toList == ([66, 69, 71, 73, 78] : List UInt8)) = false := beq_eq_false_iff_ne.2 (notB hb))
    go_enter Tryz.func29, Tryz.ntmps29
    go_wp2_with fail
    go_at_call 56
    refine (line_Great.calls vl gr _ (GG.below HG.out (by repeat (first | exact Below.refl _ _ | apply below_alloc | apply pw_below_drewN | apply below_drew1))) HGRT.out).mono ?_
    rintro e w2 ⟨rfl, hB⟩
    have HB : Aside0 (Below wr.heap.size wr w2) := ⟨(below_alloc (Below.refl wr.heap.size wr) _).trans (hB.mono (by simp))⟩
    have hbox := (hB.block wr.heap.size (by simp)).trans (heap_alloc_new wr _)
    have hr2 := HR.out.below HB.out
    have x0 := blk_cell hbox 0
    have x1 := blk_cell hbox 1
    have x2 := blk_cell hbox 2
    have y0 := blk_cell hr2 0
    have y4 := blk_cell hr2 4
    clear hB hbox hr2
    go_wp2_with fail
    go_ret
    exact ⟨rfl, by first | exact HB.out | exact pw_below_drewN HB.out _⟩
set_option maxHeartbeats 2000000 in
set_option maxRecDepth 100000 in
/-- Refused: a line that begins or ends a component, with parameters, or with a value that is no name. -/
theorem line_bound (k : Nat) (wr : World) (g n c m : Nat) (A AP : Option Addr) (cP : Nat) (a b d : Value) (vl gr nm : ByteArray) (h : RSt wr g #[.slice A n c, a, b, d, .bool false]) (hG : GG wr) (hgr : line_Great.f vl = some gr) (hb : nm = tgBegin ∨ nm = tgEnd ∧ 0 < n) (hm : 0 < m ∨ m = 0 ∧ line_Name.f k gr = some false) :
    Calls Tryz.prog 29 #[.pointer (some ⟨g, 0, none⟩), .agg #[.string nm, .slice AP m cP, .string vl]] wr fun e w' => e = .returned (.int .i64 5) ∧ Below wr.heap.size wr w' := by
  have hgl : g < wr.heap.size := blk_lt h
  have HG := Aside0.mk hG
  have HGRT := Aside0.mk hgr
  have HR := Aside0.mk h
  have HBD : Aside0 (tree_bound.f nm = some true) := ⟨by rcases hb with rfl | ⟨rfl, _⟩; exact boundTB; exact boundTE⟩
  have hlead : ((n : Int) == 0) = true ∧ (nm.toList == ([66, 69, 71, 73, 78] : List UInt8)) = true ∨ ((n : Int) == 0) = false := by
    rcases Nat.eq_zero_or_pos n with e | e
    · rcases hb with rfl | ⟨_, h2⟩
      · exact .inl ⟨by rw [e]; rfl, isB_eq⟩
      · omega
    · exact .inr (beq_eq_false_iff_ne.2 (by omega))
  have hnot : ∀ (x : Bool) (w : World), (Op.unary .not (.bool x)).run Tryz.prog w = .ok (.bool (!x)) w := fun _ _ => rfl
  clear h hG hgr hb
  rcases hlead with ⟨hz, hn1⟩ | hz
  all_goals
    rcases hm with hm | ⟨rfl, hnm⟩
  all_goals
    first
      | (have hm1 : decide ((0 : Int) < (m : Int)) = true := decide_eq_true (by omega)
         have hm2 : decide (0 < m) = true := decide_eq_true hm)
      | (have HNM := Aside0.mk hnm
         clear hnm)
    go_enter Tryz.func29, Tryz.ntmps29
    go_wp2_with fail
    go_at_call 56
    refine (line_Great.calls vl gr _ (GG.below HG.out (by repeat (first | exact Below.refl _ _ | apply below_alloc | apply pw_below_drewN | apply below_drew1))) HGRT.out).mono ?_
    rintro e w2 ⟨rfl, hB⟩
    have HB : Aside0 (Below wr.heap.size wr w2) := ⟨(below_alloc (Below.refl wr.heap.size wr) _).trans (hB.mono (by simp))⟩
    have hbox := (hB.block wr.heap.size (by simp)).trans (heap_alloc_new wr _)
    have hr2 := HR.out.below HB.out
    have x0 := blk_cell hbox 0
    have x1 := blk_cell hbox 1
    have x2 := blk_cell hbox 2
    have y0 := blk_cell hr2 0
    have y4 := blk_cell hr2 4
    clear hB hbox hr2
    first
      | (go_wp2_with (first | (go_at_call 46; refine (tree_bound.calls nm true _ (by repeat (first | exact GG.below HG.out HB.out | apply GG.drewN | apply GG.drew)) HBD.out).mono ?_; rintro e w' ⟨rfl, ⟨nd, rfl⟩⟩))
         go_ret
         exact ⟨rfl, by first | exact HB.out | exact pw_below_drewN HB.out _⟩)
      | (go_wp2_with (first | (go_at_call 46; refine (tree_bound.calls nm true _ (by repeat (first | exact GG.below HG.out HB.out | apply GG.drewN | apply GG.drew)) HBD.out).mono ?_; rintro e w' ⟨rfl, ⟨nd, rfl⟩⟩) | (go_at_call 44; refine (line_Name.calls k gr false _ (by repeat (first | exact GG.below HG.out HB.out | apply GG.drewN | apply GG.drew)) HNM.out).mono ?_; rintro e w' ⟨rfl, ⟨nd2, rfl⟩⟩))
         go_ret
         exact ⟨rfl, by first | exact HB.out | exact pw_below_drewN HB.out _⟩)
end Go.Proofs.YtdojmdbaiddkgaaGreatDoor.Print
end
section
set_option linter.unusedVariables false
set_option linter.unusedSimpArgs false
namespace Go.Proofs.YtdojmdbaiddkgaaGreatDoor.Print
open Go.RowKit Go.Proofs.YtdojmdbaiddkgaaGreatDoorW.PrintWords Go.Proofs.YtdojmdbaiddkgaaGreatDoorW.PrintLast Go.Proofs.YtdojmdbaiddkgaaGreatDoorW.PrintMore
set_option maxHeartbeats 2000000 in
set_option maxRecDepth 100000 in
/-- Refused: lines behind an inner component. -/
theorem line_kids (w : World) (g : Nat) (fr : List Fr) (x : Fr) (v : Value) (w0 wr : World) (p : PLine) (AP : Option Addr) (cP : Nat) (gr : ByteArray) (h : TSt w g (fr ++ [x]) v w0) (hbel : Below w0.heap.size w0 wr)
    (hP : Kd.R k77 77 wr w0.heap.size (fun _ => True) (.slice AP p.f1.length cP) p.f1) (hG : GG wr) (hgr : line_Great.f p.f2 = some gr) (hk0 : 0 < x.ks.length) (hb1 : p.f0 ≠ tgBegin) (hb2 : p.f0 ≠ tgEnd) (hn : fr.length ≤ 1000) :
    Calls Tryz.prog 29 #[.pointer (some ⟨g, 0, none⟩), .agg #[.string p.f0, .slice AP p.f1.length cP, .string p.f2]] wr fun e w' => e = .returned (.int .i64 5) ∧ Below wr.heap.size wr w' := by
  have hgl : g < wr.heap.size := Nat.lt_of_lt_of_le h.gl hbel.size
  obtain ⟨bk, cap, cur, hv, hbk, hcap, hcur, e0, e1, e2⟩ := last_cells h.own
  subst hv
  obtain ⟨f, f0, hc⟩ := h.col
  have hcx := hc fr.length x (by simp)
  obtain ⟨AL, cL, hL⟩ := Kd.R_slice hcx.1
  obtain ⟨AK, cK, hK⟩ := Kd.R_slice hcx.2
  have hkd : decide (0 < x.ks.length) = true := decide_eq_true hk0
  have hkd2 : decide ((0 : Int) < (x.ks.length : Int)) = true := decide_eq_true (by omega)
  rw [hL] at e1
  rw [hK] at e2
  have hbl : bk < wr.heap.size := Nat.lt_of_lt_of_le (blk_lt hcur) hbel.size
  obtain ⟨hl0, inner, hin, hrp⟩ := hcx.1
  have HT := Aside0.mk h
  have HF0 := Aside0.mk (f0 bk rfl)
  have HC := Aside0.mk hc
  have HCUR := Aside0.mk hcur
  have HIN := Aside0.mk hin
  have HRP := Aside0.mk hrp
  have HL0 := Aside0.mk hl0
  have HP := Aside0.mk hP
  have HBEL := Aside0.mk hbel
  have HG := Aside0.mk hG
  have HGRT := Aside0.mk hgr
  have HR : Aside0 (RSt wr g #[.slice (some ⟨bk, 0, none⟩) (fr.length + 1) cap, .string ⟨#[]⟩, .slice none 0 0, .slice none 0 0, .bool false]) := ⟨h.st.below hbel⟩
  have HCB : Aside0 (wr.heap[bk]? = some (.cells cur 31 (0, 0))) := ⟨(hbel.block bk (blk_lt hcur)).trans hcur⟩
  have e1' := e1
  have e2' := e2
  rw [blk_cell hcur] at e1' e2'
  have hbd : tree_bound.f p.f0 = some false := by
    unfold tree_bound.f
    rw [if_neg (notB hb1)]
    exact congrArg some (beq_eq_false_iff_ne.2 (notE hb2))
  have HBD := Aside0.mk hbd
  have hn1 : (p.f0.toList == ([66, 69, 71, 73, 78] : List UInt8)) = false := beq_eq_false_iff_ne.2 (notB hb1)
  have hn2 : (p.f0.toList == ([69, 78, 68] : List UInt8)) = false := beq_eq_false_iff_ne.2 (notE hb2)
  have hz : ((fr.length : Int) + 1 == 0) = false := beq_eq_false_iff_ne.2 (by omega)
  have hw2 : IntKind.i64.wrap ((fr.length : Int) + 1 - 1) = (fr.length : Int) := by rw [i64_w]; unfold wrap64; omega
  have hni2 : ((fr.length : Int) < (fr.length : Int) + 1) = True := eq_true (by omega)
  have hn1' : (0 ≤ (fr.length : Int)) = True := eq_true (by omega)
  have hnot : ∀ (x : Bool) (w : World), (Op.unary .not (.bool x)).run Tryz.prog w = .ok (.bool (!x)) w := fun _ _ => rfl
  clear h hbel f0 hc hcx hcur hin hrp hl0 hP hG hgr hbd e0 e1 e2
  go_enter Tryz.func29, Tryz.ntmps29
  go_wp2_with fail
  go_at_call 56
  refine (line_Great.calls p.f2 gr _ (GG.below HG.out (by repeat (first | exact Below.refl _ _ | apply below_alloc | apply pw_below_drewN | apply below_drew1))) HGRT.out).mono ?_
  rintro e w2 ⟨rfl, hB⟩
  have HB : Aside0 (Below wr.heap.size wr w2) := ⟨(below_alloc (Below.refl wr.heap.size wr) _).trans (hB.mono (by simp))⟩
  have hbox := (hB.block wr.heap.size (by simp)).trans (heap_alloc_new wr _)
  have hr2 := HR.out.below HB.out
  have HR2 := Aside0.mk hr2
  have hcb2 := (HB.out.block bk hbl).trans HCB.out
  have HCB2 := Aside0.mk hcb2
  have x0 := blk_cell hbox 0
  have x1 := blk_cell hbox 1
  have x2 := blk_cell hbox 2
  have y0 := blk_cell hr2 0
  have y4 := blk_cell hr2 4
  have d1 := (blk_cell hcb2 (fr.length * 3 + 1)).trans e1'
  have d2 := (blk_cell hcb2 (fr.length * 3 + 2)).trans e2'
  have zf1 := blk_frozen hcb2 (fr.length * 3 + 1)
  clear hB hbox hr2 hcb2 e1' e2'
  go_wp2_with (first | (go_at_call 46; refine (tree_bound.calls p.f0 false _ (by repeat (first | exact GG.below HG.out HB.out | apply GG.drewN | apply GG.drew)) HBD.out).mono ?_; rintro e w' ⟨rfl, ⟨nd, rfl⟩⟩))
  go_quiet (fail)
  go_wp2_with fail
  go_ret
  exact ⟨rfl, pw_below_drewN HB.out _⟩
abbrev PTree := S31
def treeF (x : Fr) : PTree := ⟨x.nm, x.ls, x.ks⟩
/-- What has been read: the open components, the inner one first; or the one that is done. -/
inductive RdS where
  | op (l : List PTree)
  | dn (t : PTree)
/-- The inner component is done. -/
def popR (t : PTree) : List PTree → RdS
  | [] => .dn t
  | y :: r => .op (⟨y.f0, y.f1, y.f2 ++ [t]⟩ :: r)
/-- One line. -/
def stepR (s : RdS) (p : PLine) (gr : ByteArray) (ok : Bool) : Except Int RdS :=
  match s with
  | .dn _ => .error 5
  | .op [] => if p.f0 = tgBegin then (if p.f1 = [] ∧ ok = true then .ok (.op [⟨gr, [], []⟩]) else .error 5) else .error 5
  | .op (t :: r) =>
    if p.f0 = tgBegin then (if p.f1 = [] ∧ ok = true then (if r.length = 3 then .error 8 else .ok (.op (⟨gr, [], []⟩ :: t :: r))) else .error 5)
    else if p.f0 = tgEnd then (if p.f1 = [] ∧ ok = true then (if t.f0 = gr then .ok (popR t r) else .error 5) else .error 5)
    else if t.f2 = [] then .ok (.op (⟨t.f0, t.f1 ++ [p], t.f2⟩ :: r)) else .error 5
def StR (w : World) (g : Nat) (s : RdS) (wr : World) : Prop :=
  match s with
  | .op l => ∃ fr v, TSt w g fr v wr ∧ fr.map treeF = l.reverse
  | .dn t => ∃ v vL vK, DSt w g t v vL vK wr
def SmallR (m : Nat) (s : RdS) : Prop :=
  match s with
  | .op l => l.length ≤ 4 ∧ ∀ t ∈ l, t.f1.length ≤ m ∧ t.f2.length ≤ m
  | .dn _ => True
theorem StR.bel {w : World} {g : Nat} {s : RdS} {wr : World} (h : StR w g s wr) : Below w.heap.size w wr := by
  cases s with
  | op l => obtain ⟨fr, v, h, _⟩ := h; exact h.bel
  | dn t => obtain ⟨v, vL, vK, h⟩ := h; exact h.bel
/-- What a step leaves. -/
def StepP (w : World) (g : Nat) (x : Except Int RdS) (e : Ending) (w' : World) : Prop :=
  match x with
  | .error z => e = .returned (.int .i64 z) ∧ Below w.heap.size w w'
  | .ok s' => e = .returned (.int .i64 0) ∧ StR w g s' w'
theorem fr_split {fr : List Fr} {t : PTree} {r : List PTree} (h : fr.map treeF = (t :: r).reverse) : ∃ fr0 x, fr = fr0 ++ [x] ∧ treeF x = t ∧ fr0.map treeF = r.reverse := by
  rw [List.reverse_cons] at h
  obtain ⟨a, b, rfl, h1, h2⟩ := List.map_eq_append_iff.1 h
  obtain ⟨x, rfl, hx⟩ : ∃ x, b = [x] ∧ treeF x = t := by
    cases b with
    | nil => simp at h2
    | cons x q => cases q with
      | nil => exact ⟨x, rfl, by simpa using h2⟩
      | cons y q => simp at h2
  exact ⟨a, x, rfl, hx, h1⟩
set_option maxHeartbeats 1000000 in
theorem line_step (k : Nat) (w : World) (g m : Nat) (s : RdS) (w0 wr : World) (p : PLine) (AP : Option Addr) (cP : Nat) (gr : ByteArray) (ok : Bool) (h : StR w g s w0) (hbel : Below w0.heap.size w0 wr)
    (hP : Kd.R k77 77 wr w0.heap.size (fun _ => True) (.slice AP p.f1.length cP) p.f1) (hG : GG wr) (hgr : line_Great.f p.f2 = some gr) (hnm : line_Name.f k gr = some ok) (hs : SmallR m s) (hm : m ≤ 1000) :
    Calls Tryz.prog 29 #[.pointer (some ⟨g, 0, none⟩), .agg #[.string p.f0, .slice AP p.f1.length cP, .string p.f2]] wr (StepP w g (stepR s p gr ok)) := by
  have hB : ∀ w', Below wr.heap.size wr w' → Below w.heap.size w w' := fun w' hb => below_then (below_then h.bel h.bel.size hbel) (Nat.le_trans h.bel.size hbel.size) hb
  have herr : ∀ e w', (e = .returned (.int .i64 5) ∧ Below wr.heap.size wr w') → StepP w g (.error 5) e w' := fun e w' ⟨he, hb⟩ => ⟨he, hB w' hb⟩
  have hlen : p.f1 = [] ∨ 0 < p.f1.length := by cases p.f1 <;> simp
  cases s with
  | dn t =>
    obtain ⟨v, vL, vK, hd⟩ := h
    obtain ⟨A, c, rfl⟩ := hd.len
    exact (line_early wr g 0 c p.f1.length A AP cP _ _ _ true p.f2 gr p.f0 (hd.st.below hbel) hG hgr (.inl rfl)).mono herr
  | op l =>
    obtain ⟨fr, v, ht, hfr⟩ := h
    obtain ⟨A, c, hv⟩ := own_slice ht.own
    have hst : RSt wr g #[.slice A fr.length c, .string ⟨#[]⟩, .slice none 0 0, .slice none 0 0, .bool false] := by rw [← hv]; exact ht.st.below hbel
    have hfl : fr.length = l.length := by have := congrArg List.length hfr; simpa using this
    -- what begins and ends
    have hbad : (p.f0 = tgBegin ∨ p.f0 = tgEnd ∧ 0 < fr.length) → ¬ (p.f1 = [] ∧ ok = true) → Calls Tryz.prog 29 #[.pointer (some ⟨g, 0, none⟩), .agg #[.string p.f0, .slice AP p.f1.length cP, .string p.f2]] wr (StepP w g (.error 5)) := fun h1 h2 => by
      refine (line_bound k wr g fr.length c p.f1.length A AP cP _ _ _ p.f2 gr p.f0 hst hG hgr h1 ?_).mono herr
      rcases hlen with e | e
      · refine .inr ⟨by rw [e]; rfl, ?_⟩
        cases ok with
        | false => exact hnm
        | true => exact absurd ⟨e, rfl⟩ h2
      · exact .inl e
    have hbeg : p.f0 = tgBegin → p.f1 = [] → ok = true → fr.length ≤ 4 → Calls Tryz.prog 29 #[.pointer (some ⟨g, 0, none⟩), .agg #[.string p.f0, .slice AP p.f1.length cP, .string p.f2]] wr (StepP w g (if fr.length = 4 then .error 8 else .ok (.op (⟨gr, [], []⟩ :: l)))) := fun h1 h2 h3 h4 => by
      subst h3
      rw [h2]
      refine (line_begins k wr g fr.length c A AP cP _ _ _ p.f2 gr p.f0 (fun z w' => StepP w g (if fr.length = 4 then .error 8 else .ok (.op (⟨gr, [], []⟩ :: l))) (.returned (.int .i64 z)) w') hst hG hgr hnm h1 (fun w2 hb2 => ?_)).mono ?_
      · have ht2 := ht.below (hbel.trans (hb2.mono hbel.size))
        by_cases h5 : fr.length = 4
        · refine (begins_full w g fr v w2 gr ht2 h5).mono ?_
          rintro e w' ⟨rfl, rfl⟩
          refine ⟨8, rfl, ?_⟩
          rw [if_pos h5]
          exact ⟨rfl, ht2.bel⟩
        · refine (begins_g w g fr v w2 gr ht2 (by omega)).mono ?_
          rintro e w' ⟨rfl, v1, hq⟩
          refine ⟨0, rfl, ?_⟩
          rw [if_neg h5]
          exact ⟨rfl, _, v1, hq, by rw [List.map_append, List.reverse_cons, hfr]; rfl⟩
      · rintro e w' ⟨z, rfl, hq⟩
        exact hq
    cases l with
    | nil =>
      have hf0 : fr.length = 0 := hfl
      by_cases hb : p.f0 = tgBegin
      · simp only [stepR, if_pos hb]
        by_cases hc : p.f1 = [] ∧ ok = true
        · rw [if_pos hc]
          have := hbeg hb hc.1 hc.2 (by omega)
          rwa [if_neg (by omega)] at this
        · rw [if_neg hc]; exact hbad (.inl hb) hc
      · simp only [stepR, if_neg hb]
        rw [hf0] at hst
        exact (line_early wr g 0 c p.f1.length A AP cP _ _ _ false p.f2 gr p.f0 hst hG hgr (.inr ⟨rfl, rfl, hb⟩)).mono herr
    | cons t r =>
      obtain ⟨fr0, x, rfl, hx, hr⟩ := fr_split hfr
      have hfr0 : fr0.length = r.length := by have := congrArg List.length hr; simpa using this
      have hsm := hs.2 t (by simp)
      have hs4 : r.length + 1 ≤ 4 := hs.1
      have e1 : x.nm = t.f0 := by rw [← hx]; rfl
      have e2 : x.ls = t.f1 := by rw [← hx]; rfl
      have e3 : x.ks = t.f2 := by rw [← hx]; rfl
      by_cases hb : p.f0 = tgBegin
      · simp only [stepR, if_pos hb]
        by_cases hc : p.f1 = [] ∧ ok = true
        · rw [if_pos hc]
          have := hbeg hb hc.1 hc.2 (by rw [List.length_append, List.length_singleton]; omega)
          have hll : (fr0 ++ [x]).length = r.length + 1 := by rw [List.length_append, List.length_singleton, hfr0]
          by_cases h3 : r.length = 3
          · rw [if_pos h3]; rw [if_pos (by omega)] at this; exact this
          · rw [if_neg h3]; rw [if_neg (by omega)] at this; exact this
        · rw [if_neg hc]; exact hbad (.inl hb) hc
      by_cases he : p.f0 = tgEnd
      · simp only [stepR, if_neg hb, if_pos he]
        by_cases hc : p.f1 = [] ∧ ok = true
        · obtain ⟨hc1, rfl⟩ := hc
          rw [if_pos ⟨hc1, rfl⟩, hc1]
          refine (line_ends k wr g (fr0 ++ [x]).length c A AP cP _ _ _ p.f2 gr p.f0 (fun z w' => StepP w g (if t.f0 = gr then .ok (popR t r) else .error 5) (.returned (.int .i64 z)) w') hst hG hgr hnm he (by simp) (fun w2 hb2 => ?_)).mono ?_
          · have ht2 := ht.below (hbel.trans (hb2.mono hbel.size))
            by_cases hq : t.f0 = gr
            · rw [if_pos hq]
              cases r with
              | nil =>
                have : fr0 = [] := by simpa using hr
                subst this
                have h5 := ends_one w g x v w2 ht2
                rw [show x.nm = gr from e1.trans hq] at h5
                refine h5.mono ?_
                rintro e w' ⟨rfl, v1, hd⟩
                refine ⟨0, rfl, rfl, v1, x.vL, x.vK, ?_⟩
                rw [← hx]
                show DSt w g ⟨x.nm, x.ls, x.ks⟩ v1 x.vL x.vK w'
                rw [show x.nm = gr from e1.trans hq]
                exact hd
              | cons y r' =>
                obtain ⟨fr1, y0, rfl, hy, hr'⟩ := fr_split hr
                have hsy := hs.2 y (by simp)
                have hk0 : y0.ks = y.f2 := by rw [← hy]; rfl
                have hl1 : fr1.length = r'.length := by simpa using hfr0
                have hl2 : r'.length + 1 + 1 ≤ 4 := hs4
                have h5 := ends_up w g fr1 y0 x v w2 ht2 (by omega) (by rw [hk0]; omega)
                rw [show x.nm = gr from e1.trans hq] at h5
                refine h5.mono ?_
                rintro e w' ⟨rfl, v1, v2, hd⟩
                refine ⟨0, rfl, rfl, _, v1, hd, ?_⟩
                rw [List.map_append, List.reverse_cons, hr']
                refine congrArg (fun z => r'.reverse ++ [z]) ?_
                rw [← hy, ← hx]
                show (⟨y0.nm, y0.ls, y0.ks ++ [⟨gr, x.ls, x.ks⟩]⟩ : PTree) = ⟨y0.nm, y0.ls, y0.ks ++ [⟨x.nm, x.ls, x.ks⟩]⟩
                rw [show x.nm = gr from e1.trans hq]
            · rw [if_neg hq]
              refine (ends_bad w g fr0 x v w2 gr ht2 (by rw [e1]; exact hq) (by omega)).mono ?_
              rintro e w' ⟨rfl, hb3⟩
              exact ⟨5, rfl, rfl, below_then ht2.bel ht2.bel.size hb3⟩
          · rintro e w' ⟨z, rfl, hq⟩
            exact hq
        · rw [if_neg hc]; exact hbad (.inr ⟨he, by simp⟩) hc
      · simp only [stepR, if_neg hb, if_neg he]
        by_cases hk : t.f2 = []
        · rw [if_pos hk]
          refine (line_app w g fr0 x v w0 wr p AP cP gr ht hbel hP hG hgr (by rw [e3]; exact hk) hb he (by rw [e2]; omega) (by omega)).mono ?_
          rintro e w' ⟨rfl, v1, hq⟩
          refine ⟨rfl, _, v, hq, ?_⟩
          rw [List.map_append, List.reverse_cons, hr]
          refine congrArg (fun z => r.reverse ++ [z]) ?_
          rw [← hx]; rfl
        · rw [if_neg hk]
          exact (line_kids w g fr0 x v w0 wr p AP cP gr ht hbel hP hG hgr (by rw [e3]; exact List.length_pos_iff.2 hk) hb he (by omega)).mono herr
end Go.Proofs.YtdojmdbaiddkgaaGreatDoor.Print
end
section
set_option linter.unusedVariables false
set_option linter.unusedSimpArgs false
namespace Go.Proofs.YtdojmdbaiddkgaaGreatDoor.Print
open Go.RowKit Go.Proofs.YtdojmdbaiddkgaaGreatDoorW.PrintWords Go.Proofs.YtdojmdbaiddkgaaGreatDoorW.PrintLast Go.Proofs.YtdojmdbaiddkgaaGreatDoorW.PrintMore
/-- Signs of names, small letters too. -/
def signS (c : UInt8) : Bool := (line_sign.f ((c.toNat : Nat) : Int) false).getD false
theorem signS_f (c : UInt8) : line_sign.f ((c.toNat : Nat) : Int) false = some (signS c) := by
  unfold signS
  have h : ∃ b, line_sign.f ((c.toNat : Nat) : Int) false = some b := by
    unfold line_sign.f
    repeat' split
    all_goals exact ⟨_, rfl⟩
  obtain ⟨b, hb⟩ := h
  rw [hb]; rfl
/-- How many bytes a name has, of so many at most. -/
def nameEnd (l : List UInt8) (n : Nat) : Nat := ((l.take n).takeWhile signS).length
theorem nameEnd_nil (n : Nat) : nameEnd [] n = 0 := by simp [nameEnd]
theorem nameEnd_zero (l : List UInt8) : nameEnd l 0 = 0 := by simp [nameEnd]
theorem nameEnd_yes (c : UInt8) (t : List UInt8) (n : Nat) (h : signS c = true) : nameEnd (c :: t) (n + 1) = nameEnd t n + 1 := by simp [nameEnd, h]
theorem nameEnd_no (c : UInt8) (t : List UInt8) (n : Nat) (h : signS c = false) : nameEnd (c :: t) (n + 1) = 0 := by simp [nameEnd, h]
theorem nameEnd_le (l : List UInt8) (n : Nat) : nameEnd l n ≤ l.length ∧ nameEnd l n ≤ n := by
  unfold nameEnd
  have h1 := (List.takeWhile_sublist signS (l := l.take n)).length_le
  rw [List.length_take] at h1
  omega
def line_reader_name.f (s0_0 : ByteArray) (s0_1 : Int) (s0_2 : Int) : Option (ByteArray × ByteArray × Int × Int) :=
  if s0_2 = 0 ∧ 0 ≤ s0_1 ∧ s0_1 ≤ (s0_0.size : Int) ∧ s0_0.size ≤ 4611686018427387904 then
    (if nameEnd (s0_0.data.toList.drop s0_1.toNat) 60 = 0 then some (⟨#[]⟩, s0_0, s0_1, 5)
     else some (greatS (s0_0.extract s0_1.toNat (s0_1.toNat + nameEnd (s0_0.data.toList.drop s0_1.toNat) 60)), s0_0, ((s0_1.toNat + nameEnd (s0_0.data.toList.drop s0_1.toNat) 60 : Nat) : Int), 0))
  else none
theorem ext_same {s : ByteArray} {b i : Nat} (h : i = b) : greatS (s.extract b i) = ⟨#[]⟩ := by
  subst h
  have : s.extract i i = ⟨#[]⟩ := by
    apply ByteArray.ext
    rw [ByteArray.data_extract, Array.extract_eq_empty_iff.2 (by omega)]
  rw [this]; rfl
theorem name_fin {s : ByteArray} {b i n : Nat} {r1 : ByteArray} {r3 r4 : Int} (hz : n = i - b) (hr : if n = 0 then r1 = ⟨#[]⟩ ∧ r3 = (b : Int) ∧ r4 = 5 else r1 = greatS (s.extract b (b + n)) ∧ r3 = ((b + n : Nat) : Int) ∧ r4 = 0) (hbi : b ≤ i := by omega) :
    (i = b → r1 = ⟨#[]⟩ ∧ r3 = (b : Int) ∧ r4 = 5) ∧ (i ≠ b → r1 = greatS (s.extract b i) ∧ r3 = (i : Int) ∧ r4 = 0) := by
  refine ⟨fun h => ?_, fun h => ?_⟩
  · rw [if_pos (by omega)] at hr; exact hr
  · rw [if_neg (by omega), show b + n = i by omega] at hr; exact hr
set_option maxHeartbeats 8000000 in
set_option maxRecDepth 100000 in
theorem name_walk (g : Nat) (s : ByteArray) (b : Nat) (w0 w : World) (hG : GG w0) (hI : IsS98 w0 w g s b 0) (hB : Below w0.heap.size w0 w) (hb : b ≤ s.size) (hs : s.size ≤ 4611686018427387904) (r1 : ByteArray) (r3 r4 : Int)
    (hr : Aside0 (if nameEnd (s.data.toList.drop b) 60 = 0 then r1 = ⟨#[]⟩ ∧ r3 = (b : Int) ∧ r4 = 5 else r1 = greatS (s.extract b (b + nameEnd (s.data.toList.drop b) 60)) ∧ r3 = ((b + nameEnd (s.data.toList.drop b) 60 : Nat) : Int) ∧ r4 = 0)) :
    Calls Tryz.prog 51 #[.pointer (some ⟨g, 0, none⟩)] w fun e w' => e = .returned (.string r1) ∧ IsS98 w0 w' g s r3 r4 ∧ Below w0.heap.size w0 w' ∧ KeepBut w w' g none := by
  have HI := Aside0.mk hI
  have HB := Aside0.mk hB
  have HGG := Aside0.mk hG
  have hge := hI.ge
  have hcz0 := cellS98_0 hI.1
  have hcz1 := cellS98_1 hI.1
  have hcz2 := cellS98_2 hI.1
  have hfz1 := blk_frozen hI.1 1
  clear hI hB hG
  go_enter Tryz.func51, Tryz.ntmps51
  go_wp2_with fail
  clear hcz0 hcz1 hcz2 hfz1
  go_loopg [38] 60 (fun g2 v38 wr => ∃ i : Nat, b ≤ i ∧ i ≤ s.size ∧ i - b ≤ 60 ∧ Aside0 (60 ≤ (i - b) + g2) ∧ Aside0 (IsS98 w0 wr g s i 0) ∧ Aside0 (Below w0.heap.size w0 wr) ∧ Aside0 (KeepBut w wr g none) ∧ Aside0 (nameEnd (s.data.toList.drop b) 60 = (i - b) + nameEnd (s.data.toList.drop i) (60 - (i - b))))
  case atStart => exact ⟨b, by omega, hb, by omega, ⟨by omega⟩, HI, HB, ⟨KeepBut.refl _ _ _⟩, ⟨by simp⟩⟩
  case round =>
    obtain ⟨i, hbi, his, hi60, HK, HIr, HBr, HKr, HE⟩ := hrel
    have hcz0 := cellS98_0 HIr.out.1
    have hcz1 := cellS98_1 HIr.out.1
    have hcz2 := cellS98_2 HIr.out.1
    have hfz1 := blk_frozen HIr.out.1 1
    have HL := Aside0.mk HIr.out.lt
    have hsn := signS_f
    have HSN := Aside0.mk hsn
    clear hsn
    have hdb : IntKind.i64.wrap ((i : Int) - (b : Int)) = (i : Int) - (b : Int) := IntWalk.i64_in _ (by omega)
    clear hdb
    by_cases hlt : i < s.size
    · have d1 : decide (i < s.size) = true := decide_eq_true hlt
      by_cases h60 : i - b < 60
      · obtain ⟨c, hc⟩ : ∃ c : UInt8, s[i] = c := ⟨_, rfl⟩
        have hcl := HSN.out c
        have hdr : s.data.toList.drop i = c :: s.data.toList.drop (i + 1) := by
          rw [List.drop_eq_getElem_cons (by simpa using hlt)]; rw [← hc]; rfl
        obtain ⟨r, hr⟩ : ∃ r, r = signS c := ⟨_, rfl⟩
        rw [← hr] at hcl
        have HC := Aside0.mk hcl
        have HD := Aside0.mk (And.intro hdr hr)
        clear hcl hdr
        have d2 : decide ((i : Int) - (b : Int) < 60) = true := decide_eq_true (by omega)
        have d3 : IntKind.i64.wrap ((i : Int) - (b : Int)) = (i : Int) - (b : Int) := IntWalk.i64_in _ (by omega)
        clear hr
        cases r with
        | true =>
          cases gk with
          | zero => exfalso; have := HK.out; omega
          | succ g2 =>
          have HE2 : Aside0 (nameEnd (s.data.toList.drop b) 60 = (i + 1 - b) + nameEnd (s.data.toList.drop (i + 1)) (60 - (i + 1 - b))) := ⟨by
            have e := HE.out
            have e2 : 60 - (i - b) = (60 - (i + 1 - b)) + 1 := by omega
            rw [HD.out.1, e2, nameEnd_yes c _ _ HD.out.2.symm] at e
            rw [e]; omega⟩
          go_wp2_with fail
          go_quiet ((go_at_call 70; exact Calls.quiet_of ((line_sign.calls _ _ true _ (HGG.out.below (pw_below_drewN HBr.out _)) HC.out).mono fun e w' h => ⟨h.1, h.2.out⟩)))
          go_wp2_with fail
          go_roundg g2
          case measure => have := HK.out; omega
          case rel => exact ⟨i + 1, by omega, by omega, by omega, ⟨by have := HK.out; omega⟩, ⟨by first | exact (HIr.out.drewN _).set_1 _ | (have h9 := (HIr.out.drewN 0).set_1 ((i : Int) + 1); exact h9)⟩, ⟨below_set (pw_below_drewN HBr.out _) hge⟩, ⟨(keep_drewN HKr.out _).set_ _ _⟩, HE2⟩
        | false =>
          have HZ : Aside0 (nameEnd (s.data.toList.drop b) 60 = i - b) := ⟨by
            have e := HE.out
            have e2 : 60 - (i - b) = (60 - (i + 1 - b)) + 1 := by omega
            rw [HD.out.1, e2, nameEnd_no c _ _ HD.out.2.symm] at e
            omega⟩
          go_wp2_with fail
          go_quiet ((go_at_call 70; exact Calls.quiet_of ((line_sign.calls _ _ false _ (HGG.out.below (pw_below_drewN HBr.out _)) HC.out).mono fun e w' h => ⟨h.1, h.2.out⟩)))
          have HX : Aside0 ((s.extract b i).size ≤ 9223372036854775807) := ⟨by rw [ByteArray.size_extract]; omega⟩
          have HR := Aside0.mk (name_fin HZ.out hr.out)
          by_cases e0 : i = b
          · obtain ⟨rfl, rfl, rfl⟩ := HR.out.1 e0
            have HE0 := Aside0.mk e0
            have hii : (i : Int) = (b : Int) := by omega
            have hib : ((i : Int) == (b : Int)) = true := beq_iff_eq.2 hii
            clear hii e0
            go_wp2_with (go_at_call 54; refine (line_reader_wrong.calls g s i 0 5 i s i 5 w0 _ HGG.out (HIr.out.drewN _) (pw_below_drewN HBr.out _) rfl).mono ?_; rintro e w2 ⟨rfl, hI2, hB2, hK2⟩)
            have HI2 := Aside0.mk hI2
            have HB2 := Aside0.mk hB2
            have HK2 := Aside0.mk ((keep_drewN HKr.out _).trans hK2 (.inl rfl))
            clear hI2 hB2 hK2 hcz0 hcz1 hcz2 hfz1
            have HL := Aside0.mk HI2.out.lt
            have hcz0 := cellS98_0 HI2.out.1
            have hcz1 := cellS98_1 HI2.out.1
            have hcz2 := cellS98_2 HI2.out.1
            go_wp2_with fail
            go_region_held3 (fun w' => w'.cell? ⟨g, 0, none⟩ = some (.string s) ∧ w'.cell? ⟨g, 1, none⟩ = some (.int .i64 i)) (first | go_keep | exact ⟨(hB3.cell (p := ⟨g, 0, none⟩) HL.out).trans hcz0, (hB3.cell (p := ⟨g, 1, none⟩) HL.out).trans hcz1⟩) (first | (go_at_call 56; refine (great_walk (s.extract b i) _ HX.out).mono ?_; rintro e w3 ⟨rfl, hB3⟩))
            have HB3 := Aside0.mk hB3
            clear hB3
            go_wp2_with fail
            go_ret
            refine ⟨by rw [ext_same HE0.out]; rfl, ?_, ?_, ?_⟩
            · rw [← HE0.out]; exact (HI2.out.drewN _).below HB3.out
            · exact (pw_below_drewN HB2.out _).trans (HB3.out.mono (pw_below_drewN HB2.out _).size)
            · exact (keep_drewN HK2.out _).trans (KeepBut.of_below HB3.out g none) (.inl rfl)
          · obtain ⟨rfl, rfl, rfl⟩ := HR.out.2 e0
            have hib : ((i : Int) == (b : Int)) = false := beq_eq_false_iff_ne.2 (by omega)
            go_wp2_with fail
            go_region_held3 (fun w' => w'.cell? ⟨g, 0, none⟩ = some (.string s) ∧ w'.cell? ⟨g, 1, none⟩ = some (.int .i64 i)) (first | go_keep | exact ⟨(hB3.cell (p := ⟨g, 0, none⟩) HL.out).trans hcz0, (hB3.cell (p := ⟨g, 1, none⟩) HL.out).trans hcz1⟩) (first | (go_at_call 56; refine (great_walk (s.extract b i) _ HX.out).mono ?_; rintro e w3 ⟨rfl, hB3⟩))
            have HB3 := Aside0.mk hB3
            clear hB3
            go_wp2_with fail
            go_ret
            exact ⟨rfl, (HIr.out.drewN _).below HB3.out, (pw_below_drewN HBr.out _).trans (HB3.out.mono (pw_below_drewN HBr.out _).size), (keep_drewN HKr.out _).trans (KeepBut.of_below HB3.out g none) (.inl rfl)⟩
      · have HZ : Aside0 (nameEnd (s.data.toList.drop b) 60 = i - b) := ⟨by
          have e := HE.out
          have e2 : 60 - (i - b) = 0 := by omega
          rw [e2, nameEnd_zero (s.data.toList.drop i)] at e
          omega⟩
        have d2 : decide ((i : Int) - (b : Int) < 60) = false := decide_eq_false (by omega)
        have d3 : IntKind.i64.wrap ((i : Int) - (b : Int)) = (i : Int) - (b : Int) := IntWalk.i64_in _ (by omega)
        go_wp2_with fail
        go_quiet (fail)
        have HX : Aside0 ((s.extract b i).size ≤ 9223372036854775807) := ⟨by rw [ByteArray.size_extract]; omega⟩
        have HR := Aside0.mk (name_fin HZ.out hr.out)
        by_cases e0 : i = b
        · obtain ⟨rfl, rfl, rfl⟩ := HR.out.1 e0
          have HE0 := Aside0.mk e0
          have hii : (i : Int) = (b : Int) := by omega
          have hib : ((i : Int) == (b : Int)) = true := beq_iff_eq.2 hii
          clear hii e0
          go_wp2_with (go_at_call 54; refine (line_reader_wrong.calls g s i 0 5 i s i 5 w0 _ HGG.out (HIr.out.drewN _) (pw_below_drewN HBr.out _) rfl).mono ?_; rintro e w2 ⟨rfl, hI2, hB2, hK2⟩)
          have HI2 := Aside0.mk hI2
          have HB2 := Aside0.mk hB2
          have HK2 := Aside0.mk ((keep_drewN HKr.out _).trans hK2 (.inl rfl))
          clear hI2 hB2 hK2 hcz0 hcz1 hcz2 hfz1
          have HL := Aside0.mk HI2.out.lt
          have hcz0 := cellS98_0 HI2.out.1
          have hcz1 := cellS98_1 HI2.out.1
          have hcz2 := cellS98_2 HI2.out.1
          go_wp2_with fail
          go_region_held3 (fun w' => w'.cell? ⟨g, 0, none⟩ = some (.string s) ∧ w'.cell? ⟨g, 1, none⟩ = some (.int .i64 i)) (first | go_keep | exact ⟨(hB3.cell (p := ⟨g, 0, none⟩) HL.out).trans hcz0, (hB3.cell (p := ⟨g, 1, none⟩) HL.out).trans hcz1⟩) (first | (go_at_call 56; refine (great_walk (s.extract b i) _ HX.out).mono ?_; rintro e w3 ⟨rfl, hB3⟩))
          have HB3 := Aside0.mk hB3
          clear hB3
          go_wp2_with fail
          go_ret
          refine ⟨by rw [ext_same HE0.out]; rfl, ?_, ?_, ?_⟩
          · rw [← HE0.out]; exact (HI2.out.drewN _).below HB3.out
          · exact (pw_below_drewN HB2.out _).trans (HB3.out.mono (pw_below_drewN HB2.out _).size)
          · exact (keep_drewN HK2.out _).trans (KeepBut.of_below HB3.out g none) (.inl rfl)
        · obtain ⟨rfl, rfl, rfl⟩ := HR.out.2 e0
          have hib : ((i : Int) == (b : Int)) = false := beq_eq_false_iff_ne.2 (by omega)
          go_wp2_with fail
          go_region_held3 (fun w' => w'.cell? ⟨g, 0, none⟩ = some (.string s) ∧ w'.cell? ⟨g, 1, none⟩ = some (.int .i64 i)) (first | go_keep | exact ⟨(hB3.cell (p := ⟨g, 0, none⟩) HL.out).trans hcz0, (hB3.cell (p := ⟨g, 1, none⟩) HL.out).trans hcz1⟩) (first | (go_at_call 56; refine (great_walk (s.extract b i) _ HX.out).mono ?_; rintro e w3 ⟨rfl, hB3⟩))
          have HB3 := Aside0.mk hB3
          clear hB3
          go_wp2_with fail
          go_ret
          exact ⟨rfl, (HIr.out.drewN _).below HB3.out, (pw_below_drewN HBr.out _).trans (HB3.out.mono (pw_below_drewN HBr.out _).size), (keep_drewN HKr.out _).trans (KeepBut.of_below HB3.out g none) (.inl rfl)⟩
    · have HZ : Aside0 (nameEnd (s.data.toList.drop b) 60 = i - b) := ⟨by
        have e := HE.out
        rw [show s.data.toList.drop i = [] from List.drop_eq_nil_of_le (by simp; omega), nameEnd_nil] at e
        omega⟩
      have d1 : decide (i < s.size) = false := decide_eq_false hlt
      go_wp2_with fail
      go_quiet (fail)
      have HX : Aside0 ((s.extract b i).size ≤ 9223372036854775807) := ⟨by rw [ByteArray.size_extract]; omega⟩
      have HR := Aside0.mk (name_fin HZ.out hr.out)
      by_cases e0 : i = b
      · obtain ⟨rfl, rfl, rfl⟩ := HR.out.1 e0
        have HE0 := Aside0.mk e0
        have hii : (i : Int) = (b : Int) := by omega
        have hib : ((i : Int) == (b : Int)) = true := beq_iff_eq.2 hii
        clear hii e0
        go_wp2_with (go_at_call 54; refine (line_reader_wrong.calls g s i 0 5 i s i 5 w0 _ HGG.out (HIr.out.drewN _) (pw_below_drewN HBr.out _) rfl).mono ?_; rintro e w2 ⟨rfl, hI2, hB2, hK2⟩)
        have HI2 := Aside0.mk hI2
        have HB2 := Aside0.mk hB2
        have HK2 := Aside0.mk ((keep_drewN HKr.out _).trans hK2 (.inl rfl))
        clear hI2 hB2 hK2 hcz0 hcz1 hcz2 hfz1
        have HL := Aside0.mk HI2.out.lt
        have hcz0 := cellS98_0 HI2.out.1
        have hcz1 := cellS98_1 HI2.out.1
        have hcz2 := cellS98_2 HI2.out.1
        go_wp2_with fail
        go_region_held3 (fun w' => w'.cell? ⟨g, 0, none⟩ = some (.string s) ∧ w'.cell? ⟨g, 1, none⟩ = some (.int .i64 i)) (first | go_keep | exact ⟨(hB3.cell (p := ⟨g, 0, none⟩) HL.out).trans hcz0, (hB3.cell (p := ⟨g, 1, none⟩) HL.out).trans hcz1⟩) (first | (go_at_call 56; refine (great_walk (s.extract b i) _ HX.out).mono ?_; rintro e w3 ⟨rfl, hB3⟩))
        have HB3 := Aside0.mk hB3
        clear hB3
        go_wp2_with fail
        go_ret
        refine ⟨by rw [ext_same HE0.out]; rfl, ?_, ?_, ?_⟩
        · rw [← HE0.out]; exact (HI2.out.drewN _).below HB3.out
        · exact (pw_below_drewN HB2.out _).trans (HB3.out.mono (pw_below_drewN HB2.out _).size)
        · exact (keep_drewN HK2.out _).trans (KeepBut.of_below HB3.out g none) (.inl rfl)
      · obtain ⟨rfl, rfl, rfl⟩ := HR.out.2 e0
        have hib : ((i : Int) == (b : Int)) = false := beq_eq_false_iff_ne.2 (by omega)
        go_wp2_with fail
        go_region_held3 (fun w' => w'.cell? ⟨g, 0, none⟩ = some (.string s) ∧ w'.cell? ⟨g, 1, none⟩ = some (.int .i64 i)) (first | go_keep | exact ⟨(hB3.cell (p := ⟨g, 0, none⟩) HL.out).trans hcz0, (hB3.cell (p := ⟨g, 1, none⟩) HL.out).trans hcz1⟩) (first | (go_at_call 56; refine (great_walk (s.extract b i) _ HX.out).mono ?_; rintro e w3 ⟨rfl, hB3⟩))
        have HB3 := Aside0.mk hB3
        clear hB3
        go_wp2_with fail
        go_ret
        exact ⟨rfl, (HIr.out.drewN _).below HB3.out, (pw_below_drewN HBr.out _).trans (HB3.out.mono (pw_below_drewN HBr.out _).size), (keep_drewN HKr.out _).trans (KeepBut.of_below HB3.out g none) (.inl rfl)⟩
theorem line_reader_name.calls (g : Nat) (s0_0 : ByteArray) (s0_1 : Int) (s0_2 : Int) (r1 : ByteArray) (r2 : ByteArray) (r3 : Int) (r4 : Int) (w0 w : World) (hG : GG w0) (hI : IsS98 w0 w g s0_0 s0_1 s0_2) (hB : Below w0.heap.size w0 w) (h : line_reader_name.f s0_0 s0_1 s0_2 = some (r1, r2, r3, r4)) :
    Calls Tryz.prog 51 #[.pointer (some ⟨g, 0, none⟩)] w fun e w' => e = .returned (.string r1) ∧ IsS98 w0 w' g r2 r3 r4 ∧ Below w0.heap.size w0 w' ∧ KeepBut w w' g none := by
  unfold line_reader_name.f at h
  by_cases hc : s0_2 = 0 ∧ 0 ≤ s0_1 ∧ s0_1 ≤ (s0_0.size : Int) ∧ s0_0.size ≤ 4611686018427387904
  · rw [if_pos hc] at h
    obtain ⟨rfl, h0, h1, h2⟩ := hc
    obtain ⟨b, rfl⟩ : ∃ b : Nat, s0_1 = (b : Int) := ⟨s0_1.toNat, by omega⟩
    rw [Int.toNat_natCast] at h
    by_cases hn : nameEnd (s0_0.data.toList.drop b) 60 = 0
    · rw [if_pos hn] at h
      simp only [Option.some.injEq, Prod.mk.injEq] at h
      obtain ⟨rfl, rfl, rfl, rfl⟩ := h
      exact name_walk g s0_0 b w0 w hG hI hB (by omega) h2 _ _ _ ⟨by rw [if_pos hn]; exact ⟨rfl, rfl, rfl⟩⟩
    · rw [if_neg hn] at h
      simp only [Option.some.injEq, Prod.mk.injEq] at h
      obtain ⟨rfl, rfl, rfl, rfl⟩ := h
      exact name_walk g s0_0 b w0 w hG hI hB (by omega) h2 _ _ _ ⟨by rw [if_neg hn]; exact ⟨rfl, rfl, rfl⟩⟩
  · rw [if_neg hc] at h; cases h
end Go.Proofs.YtdojmdbaiddkgaaGreatDoor.Print
end
section
set_option linter.unusedVariables false
set_option linter.unusedSimpArgs false
namespace Go.Proofs.YtdojmdbaiddkgaaGreatDoor.Print
open Go.RowKit Go.Proofs.YtdojmdbaiddkgaaGreatDoorW.PrintWords Go.Proofs.YtdojmdbaiddkgaaGreatDoorW.PrintLast Go.Proofs.YtdojmdbaiddkgaaGreatDoorW.PrintMore
/-- Bytes of a value that isn't quoted. -/
def plainV (c : UInt8) : Bool := !(c == 58 || c == 59 || c == 44 || c == 34)
/-- How long a value is that begins here; none: its quote isn't closed. -/
def valEnd (l : List UInt8) : Option Nat := if l.head? = some 34 then (if Lib.indexByte (l.drop 1) 34 < 0 then none else some ((Lib.indexByte (l.drop 1) 34).toNat + 2)) else some ((l.takeWhile plainV).length)
def line_reader_value.f (k : Nat) (s0_0 : ByteArray) (s0_1 : Int) (s0_2 : Int) : Option (ByteArray × ByteArray × Int × Int) :=
  if s0_2 = 0 ∧ 0 ≤ s0_1 ∧ s0_1 ≤ (s0_0.size : Int) ∧ s0_0.size ≤ 4611686018427387904 then
    (match valEnd (s0_0.data.toList.drop s0_1.toNat) with
     | none => some (⟨#[]⟩, s0_0, (s0_0.size : Int), 5)
     | some n => (escape_Value.f k (s0_0.extract s0_1.toNat (s0_1.toNat + n))).bind fun p => some (p.1, s0_0, if p.2 = 0 then ((s0_1.toNat + n : Nat) : Int) else s0_1, if p.2 = 0 then 0 else 7))
  else none
theorem plain_idx (c : UInt8) : Lib.indexByte [58, 59, 44, 34] c < 0 ↔ plainV c = true := by
  have h : ∀ c : Fin 256, Lib.indexByte [58, 59, 44, 34] (UInt8.ofFin c) < 0 ↔ plainV (UInt8.ofFin c) = true := by decide +kernel
  exact h c.toFin
theorem idx_lt (l : List UInt8) (c : UInt8) (h : 0 ≤ Lib.indexByte l c) : Lib.indexByte l c < l.length := by
  obtain ⟨o, ho⟩ : ∃ o : Nat, Lib.indexByte l c = o := ⟨(Lib.indexByte l c).toNat, by omega⟩
  have := (List.getElem?_eq_some_iff.1 (Lib.indexByte_some ho).1).1
  omega
theorem peek_at (s : ByteArray) (b : Nat) (c : UInt8) (hb : b < s.size) (hc : s[b] = c) : line_reader_peek.f s b 0 = some (((c.toNat : Nat) : Int), s, (b : Int), 0) := by
  unfold line_reader_peek.f
  rw [if_pos rfl, if_neg (show ¬ (b : Int) ≥ (s.size : Int) by omega), if_pos (show (0 : Int) ≤ (b : Int) by omega), if_pos (show (b : Int) < (s.size : Int) by omega)]
  have h := bt_at s (b : Int) (by simpa using hb)
  rw [← h]
  simp [hc]
theorem peek_end (s : ByteArray) (b : Nat) (hb : s.size ≤ b) : line_reader_peek.f s b 0 = some (0, s, (b : Int), 0) := by
  unfold line_reader_peek.f
  rw [if_pos rfl, if_pos (show (b : Int) ≥ (s.size : Int) by omega)]
set_option maxHeartbeats 8000000 in
set_option maxRecDepth 100000 in
theorem value_open (g : Nat) (s : ByteArray) (b : Nat) (w0 w : World) (hG : GG w0) (hI : IsS98 w0 w g s b 0) (hB : Below w0.heap.size w0 w) (hs : s.size ≤ 4611686018427387904) (hb : b < s.size) (hc : s[b] = 34) (hx : Lib.indexByte (s.extract (b + 1) s.size).data.toList 34 < 0) (r1 : ByteArray) (r3 r4 : Int) (hr : r1 = ⟨#[]⟩ ∧ r3 = (s.size : Int) ∧ r4 = 5) :
    Calls Tryz.prog 77 #[.pointer (some ⟨g, 0, none⟩)] w fun e w' => e = .returned (.string r1) ∧ IsS98 w0 w' g s r3 r4 ∧ Below w0.heap.size w0 w' ∧ KeepBut w w' g none := by
  obtain ⟨rfl, rfl, rfl⟩ := hr
  have hpk : line_reader_peek.f s b 0 = some (34, s, (b : Int), 0) := peek_at s b 34 hb hc
  obtain ⟨x, hxe⟩ : ∃ x, x = Lib.indexByte (s.extract (b + 1) s.size).data.toList 34 := ⟨_, rfl⟩
  have HX := Aside0.mk (fun W => (show Calls Tryz.prog 90 #[.string (s.extract (b + 1) s.size), .int .u8 34] W fun e w' => e = .returned (.int .i64 x) ∧ w' = W from by rw [hxe]; exact Tryz.strings_IndexByte _ 34 W))
  rw [← hxe] at hx
  clear hxe hc
  have HI := Aside0.mk hI
  have HB := Aside0.mk hB
  have HGG := Aside0.mk hG
  have hge := hI.ge
  have hcz0 := cellS98_0 hI.1
  have hcz1 := cellS98_1 hI.1
  have hcz2 := cellS98_2 hI.1
  clear hI hB hG
  go_enter Tryz.func77, Tryz.ntmps77
  go_wp2_with (go_at_call 52; refine (line_reader_peek.calls g s b 0 34 s b 0 w0 _ HGG.out HI.out HB.out hpk).mono ?_; rintro e w1 ⟨rfl, hI1, hB1, hK1⟩; have HI1 := Aside0.mk hI1; have HB1 := Aside0.mk hB1; have HK1 := Aside0.mk hK1; have hcz0 := cellS98_0 hI1.1; have hcz1 := cellS98_1 hI1.1; have hcz2 := cellS98_2 hI1.1; have hfz1 := blk_frozen hI1.1 1; clear hI1 hB1 hK1 hpk)
  go_wp2_with (go_at_call 90; refine (HX.out _).mono ?_; rintro e w' ⟨rfl, rfl⟩)
  go_wp2_with (go_at_call 54; refine (line_reader_wrong.calls g s b 0 5 s.size s s.size 5 w0 _ HGG.out HI1.out HB1.out rfl).mono ?_; rintro e w2 ⟨rfl, hI2, hB2, hK2⟩; have HI2 := Aside0.mk hI2; have HB2 := Aside0.mk hB2; have HK2 := Aside0.mk hK2; clear hI2 hB2 hK2)
  go_ret
  exact ⟨rfl, HI2.out, HB2.out, HK1.out.trans HK2.out (.inl rfl)⟩
set_option maxHeartbeats 8000000 in
set_option maxRecDepth 100000 in
theorem value_quo (g : Nat) (s : ByteArray) (b : Nat) (w0 w : World) (hG : GG w0) (hI : IsS98 w0 w g s b 0) (hB : Below w0.heap.size w0 w) (hs : s.size ≤ 4611686018427387904) (hb : b < s.size) (hc : s[b] = 34) (n : Nat) (hx : Lib.indexByte (s.extract (b + 1) s.size).data.toList 34 = n) (hn : b + n + 2 ≤ s.size) (k : Nat) (r1 : ByteArray) (er : Int) (hv : Aside0 (escape_Value.f k (s.extract b (b + n + 2)) = some (r1, er))) (r3 r4 : Int) (hr : Aside0 ((er = 0 → r3 = ((b + n + 2 : Nat) : Int) ∧ r4 = 0) ∧ (er ≠ 0 → r3 = (b : Int) ∧ r4 = 7))) :
    Calls Tryz.prog 77 #[.pointer (some ⟨g, 0, none⟩)] w fun e w' => e = .returned (.string r1) ∧ IsS98 w0 w' g s r3 r4 ∧ Below w0.heap.size w0 w' ∧ KeepBut w w' g none := by
  have hpk : line_reader_peek.f s b 0 = some (34, s, (b : Int), 0) := peek_at s b 34 hb hc
  have HX := Aside0.mk (fun W => (show Calls Tryz.prog 90 #[.string (s.extract (b + 1) s.size), .int .u8 34] W fun e w' => e = .returned (.int .i64 (n : Int)) ∧ w' = W from by rw [← hx]; exact Tryz.strings_IndexByte _ 34 W))
  clear hx hc
  have HI := Aside0.mk hI
  have HB := Aside0.mk hB
  have HGG := Aside0.mk hG
  have hge := hI.ge
  have hcz0 := cellS98_0 hI.1
  have hcz1 := cellS98_1 hI.1
  have hcz2 := cellS98_2 hI.1
  clear hI hB hG
  go_enter Tryz.func77, Tryz.ntmps77
  go_wp2_with (go_at_call 52; refine (line_reader_peek.calls g s b 0 34 s b 0 w0 _ HGG.out HI.out HB.out hpk).mono ?_; rintro e w1 ⟨rfl, hI1, hB1, hK1⟩; have HI1 := Aside0.mk hI1; have HB1 := Aside0.mk hB1; have HK1 := Aside0.mk hK1; have hcz0 := cellS98_0 hI1.1; have hcz1 := cellS98_1 hI1.1; have hcz2 := cellS98_2 hI1.1; have hfz1 := blk_frozen hI1.1 1; clear hI1 hB1 hK1 hpk)
  go_wp2_with (go_at_call 90; refine (HX.out _).mono ?_; rintro e w' ⟨rfl, rfl⟩)
  have HI3 := Aside0.mk (HI1.out.set_1 ((b : Int) + n + 2))
  have HB3 : Aside0 (Below w0.heap.size w0 (w'.setCell ⟨g, 1, none⟩ (.int .i64 ((b : Int) + n + 2)))) := ⟨below_set HB1.out hge⟩
  have HK3 : Aside0 (KeepBut w (w'.setCell ⟨g, 1, none⟩ (.int .i64 ((b : Int) + n + 2))) g none) := ⟨HK1.out.set_ 1 _⟩
  obtain ⟨i, hi⟩ : ∃ i : Nat, i = b + n + 2 := ⟨_, rfl⟩
  have hii : (b : Int) + (n : Int) + 2 = (i : Int) := by omega
  have his : i ≤ s.size := by omega
  have hbi : b ≤ i := by omega
  rw [← hi] at hv hr
  have HV := hv
  have HF := hr
  rw [hii] at HI3 HB3 HK3 ⊢
  clear hi hii hv hr hcz0 hcz1 hcz2 hfz1 hn
  have hcz0 := cellS98_0 HI3.out.1
  have hcz1 := cellS98_1 HI3.out.1
  have hcz2 := cellS98_2 HI3.out.1
  have hfz1 := blk_frozen HI3.out.1 1
  obtain ⟨w3, hw3⟩ : ∃ w3, w3 = w'.setCell ⟨g, 1, none⟩ (.int .i64 i) := ⟨_, rfl⟩
  rw [← hw3] at HI3 HB3 HK3 hcz0 hcz1 hcz2 hfz1 ⊢
  clear hw3
  have HL := Aside0.mk HI3.out.lt
  go_wp2_with fail
  go_region_held3 (fun w' => w'.cell? ⟨g, 0, none⟩ = some (.string s) ∧ w'.cell? ⟨g, 1, none⟩ = some (.int .i64 i)) (first | go_keep | exact ⟨(hB3.cell (p := ⟨g, 0, none⟩) HL.out).trans hcz0, (hB3.cell (p := ⟨g, 1, none⟩) HL.out).trans hcz1⟩) (first | (go_at_call 93; refine (escape_Value.calls k (s.extract b i) r1 er _ (HGG.out.below (pw_below_drewN HB3.out _)) HV.out).mono ?_; rintro e w4 ⟨rfl, hB3⟩))
  have HB4 := Aside0.mk hB3
  clear hB3
  by_cases her : er = 0
  · obtain ⟨rfl, rfl⟩ := HF.out.1 her
    subst her
    go_wp2_with fail
    go_ret
    exact ⟨rfl, (HI3.out.drewN _).below HB4.out, (pw_below_drewN HB3.out _).trans (HB4.out.mono (pw_below_drewN HB3.out _).size), (keep_drewN HK3.out _).trans (KeepBut.of_below HB4.out g none) (.inl rfl)⟩
  · obtain ⟨rfl, rfl⟩ := HF.out.2 her
    have her1 : (er != 0) = true := bne_iff_ne.2 her
    have her2 : (er == 0) = false := beq_eq_false_iff_ne.2 her
    clear her
    have HI5 := Aside0.mk ((HI3.out.drewN _).below HB4.out)
    have HB5 := Aside0.mk ((pw_below_drewN HB3.out _).trans (HB4.out.mono (pw_below_drewN HB3.out _).size))
    have HK5 := Aside0.mk ((keep_drewN HK3.out _).trans (KeepBut.of_below HB4.out g none) (.inl rfl))
    clear hcz0 hcz1 hcz2 hfz1
    go_wp2_with (go_at_call 54; refine (line_reader_wrong.calls g s i 0 7 b s b 7 w0 _ HGG.out HI5.out HB5.out rfl).mono ?_; rintro e w6 ⟨rfl, hI6, hB6, hK6⟩; have HI6 := Aside0.mk hI6; have HB6 := Aside0.mk hB6; have HK6 := Aside0.mk hK6; clear hI6 hB6 hK6)
    go_ret
    exact ⟨rfl, HI6.out, HB6.out, HK5.out.trans HK6.out (.inl rfl)⟩
set_option maxHeartbeats 8000000 in
set_option maxRecDepth 100000 in
theorem value_plain (g : Nat) (s : ByteArray) (b : Nat) (w0 w : World) (hG : GG w0) (hI : IsS98 w0 w g s b 0) (hB : Below w0.heap.size w0 w) (hs : s.size ≤ 4611686018427387904) (hb : b ≤ s.size) (hc : ∀ h : b < s.size, s[b] ≠ 34) (n : Nat) (hn : n = ((s.data.toList.drop b).takeWhile plainV).length) (k : Nat) (r1 : ByteArray) (er : Int) (hv : Aside0 (escape_Value.f k (s.extract b (b + n)) = some (r1, er))) (r3 r4 : Int) (hr : Aside0 ((er = 0 → r3 = ((b + n : Nat) : Int) ∧ r4 = 0) ∧ (er ≠ 0 → r3 = (b : Int) ∧ r4 = 7))) :
    Calls Tryz.prog 77 #[.pointer (some ⟨g, 0, none⟩)] w fun e w' => e = .returned (.string r1) ∧ IsS98 w0 w' g s r3 r4 ∧ Below w0.heap.size w0 w' ∧ KeepBut w w' g none := by
  obtain ⟨pk, hpk, hne⟩ : ∃ pk : Int, line_reader_peek.f s b 0 = some (pk, s, (b : Int), 0) ∧ pk ≠ 34 := by
    by_cases h : b < s.size
    · refine ⟨_, peek_at s b _ h rfl, fun e => hc h ?_⟩
      apply UInt8.toNat_inj.1
      show s[b].toNat = 34
      exact Int.ofNat.inj e
    · exact ⟨0, peek_end s b (by omega), by decide⟩
  have hn1 : (pk == 34) = false := beq_eq_false_iff_ne.2 hne
  have hbn : b + n ≤ s.size := by
    have := (List.takeWhile_sublist plainV (l := s.data.toList.drop b)).length_le
    rw [List.length_drop] at this
    have e : s.data.toList.length = s.size := by simp
    omega
  have HN := Aside0.mk hn
  have HV := hv
  have HF := hr
  have HBN := Aside0.mk hbn
  clear hne hc hn hv hr hbn
  have HI := Aside0.mk hI
  have HB := Aside0.mk hB
  have HGG := Aside0.mk hG
  have hge := hI.ge
  have hcz0 := cellS98_0 hI.1
  have hcz1 := cellS98_1 hI.1
  have hcz2 := cellS98_2 hI.1
  clear hI hB hG
  go_enter Tryz.func77, Tryz.ntmps77
  go_wp2_with (go_at_call 52; refine (line_reader_peek.calls g s b 0 pk s b 0 w0 _ HGG.out HI.out HB.out hpk).mono ?_; rintro e w1 ⟨rfl, hI1, hB1, hK1⟩; have HI1 := Aside0.mk hI1; have HB1 := Aside0.mk hB1; have HK1 := Aside0.mk hK1; have hcz0 := cellS98_0 hI1.1; have hcz1 := cellS98_1 hI1.1; have hcz2 := cellS98_2 hI1.1; have hfz1 := blk_frozen hI1.1 1; clear hI1 hB1 hK1 hpk)
  clear hcz0 hcz1 hcz2 hfz1
  go_loopg [60] s.size (fun g2 v60 wr => ∃ i : Nat, b ≤ i ∧ i ≤ s.size ∧ Aside0 (s.size ≤ i + g2) ∧ Aside0 (IsS98 w0 wr g s i 0) ∧ Aside0 (Below w0.heap.size w0 wr) ∧ Aside0 (KeepBut w wr g none) ∧ Aside0 (b + n = i + ((s.data.toList.drop i).takeWhile plainV).length))
  case atStart => exact ⟨b, by omega, hb, ⟨by omega⟩, HI1, HB1, HK1, ⟨by rw [HN.out]⟩⟩
  case round =>
    obtain ⟨i, hbi, his, HK, HIr, HBr, HKr, HE⟩ := hrel
    have HL := Aside0.mk HIr.out.lt
    have hcz0 := cellS98_0 HIr.out.1
    have hcz1 := cellS98_1 HIr.out.1
    have hcz2 := cellS98_2 HIr.out.1
    have hfz1 := blk_frozen HIr.out.1 1
    by_cases hlt : i < s.size
    · have d1 : decide (i < s.size) = true := decide_eq_true hlt
      obtain ⟨c, hc⟩ : ∃ c : UInt8, s[i] = c := ⟨_, rfl⟩
      have hdr : s.data.toList.drop i = c :: s.data.toList.drop (i + 1) := by
        rw [List.drop_eq_getElem_cons (by simpa using hlt)]; rw [← hc]; rfl
      have HD := Aside0.mk hdr
      obtain ⟨x, hx⟩ : ∃ x, x = Lib.indexByte [58, 59, 44, 34] c := ⟨_, rfl⟩
      have HX : Aside0 (∀ W, Calls Tryz.prog 90 #[.string ⟨#[58, 59, 44, 34]⟩, .int .u8 ((c.toNat : Nat) : Int)] W fun e w' => e = .returned (.int .i64 x) ∧ w' = W) := ⟨fun W => by
        have h := Tryz.strings_IndexByte ⟨#[58, 59, 44, 34]⟩ ((c.toNat : Nat) : Int) W
        have e1 : ((c.toNat : Nat) : Int).toNat.toUInt8 = c := by simp
        rw [e1] at h
        rw [hx]; exact h⟩
      have hpl := plain_idx c
      rw [← hx] at hpl
      clear hx hdr
      by_cases hp : plainV c = true
      · have d2 : decide (x < 0) = true := decide_eq_true (hpl.2 hp)
        have HP := Aside0.mk hp
        clear hpl hp
        cases gk with
        | zero => exfalso; have := HK.out; omega
        | succ g2 =>
        have HE2 : Aside0 (b + n = (i + 1) + ((s.data.toList.drop (i + 1)).takeWhile plainV).length) := ⟨by
          have e := HE.out
          rw [HD.out, List.takeWhile_cons, if_pos HP.out, List.length_cons] at e
          omega⟩
        go_wp2_with fail
        go_quiet ((go_at_call 90; exact Calls.quiet_of_same (HX.out _)))
        go_wp2_with fail
        go_roundg g2
        case measure => have := HK.out; omega
        case rel => exact ⟨i + 1, by omega, by omega, ⟨by have := HK.out; omega⟩, ⟨by have h9 := (HIr.out.drewN 0).set_1 ((i : Int) + 1); exact h9⟩, ⟨below_set (pw_below_drewN HBr.out _) hge⟩, ⟨(keep_drewN HKr.out _).set_ _ _⟩, HE2⟩
      · have d2 : decide (x < 0) = false := decide_eq_false (fun h => hp (hpl.1 h))
        have hz : b + n = i := by
          have e := HE.out
          rw [HD.out, List.takeWhile_cons, if_neg hp] at e
          simpa using e
        clear hpl hp
        rw [hz] at HV HF
        clear hz
        go_wp2_with fail
        go_quiet ((go_at_call 90; exact Calls.quiet_of_same (HX.out _)))
        have HI3 := HIr
        have HB3 := HBr
        have HK3 := HKr
        have HL := Aside0.mk HI3.out.lt
        go_wp2_with fail
        go_region_held3 (fun w' => w'.cell? ⟨g, 0, none⟩ = some (.string s) ∧ w'.cell? ⟨g, 1, none⟩ = some (.int .i64 i)) (first | go_keep | exact ⟨(hB3.cell (p := ⟨g, 0, none⟩) HL.out).trans hcz0, (hB3.cell (p := ⟨g, 1, none⟩) HL.out).trans hcz1⟩) (first | (go_at_call 93; refine (escape_Value.calls k (s.extract b i) r1 er _ (HGG.out.below (pw_below_drewN HB3.out _)) HV.out).mono ?_; rintro e w4 ⟨rfl, hB3⟩))
        have HB4 := Aside0.mk hB3
        clear hB3
        by_cases her : er = 0
        · obtain ⟨rfl, rfl⟩ := HF.out.1 her
          subst her
          go_wp2_with fail
          go_ret
          exact ⟨rfl, (HI3.out.drewN _).below HB4.out, (pw_below_drewN HB3.out _).trans (HB4.out.mono (pw_below_drewN HB3.out _).size), (keep_drewN HK3.out _).trans (KeepBut.of_below HB4.out g none) (.inl rfl)⟩
        · obtain ⟨rfl, rfl⟩ := HF.out.2 her
          have her1 : (er != 0) = true := bne_iff_ne.2 her
          have her2 : (er == 0) = false := beq_eq_false_iff_ne.2 her
          clear her
          have HI5 := Aside0.mk ((HI3.out.drewN _).below HB4.out)
          have HB5 := Aside0.mk ((pw_below_drewN HB3.out _).trans (HB4.out.mono (pw_below_drewN HB3.out _).size))
          have HK5 := Aside0.mk ((keep_drewN HK3.out _).trans (KeepBut.of_below HB4.out g none) (.inl rfl))
          clear hcz0 hcz1 hcz2 hfz1
          go_wp2_with (go_at_call 54; refine (line_reader_wrong.calls g s i 0 7 b s b 7 w0 _ HGG.out HI5.out HB5.out rfl).mono ?_; rintro e w6 ⟨rfl, hI6, hB6, hK6⟩; have HI6 := Aside0.mk hI6; have HB6 := Aside0.mk hB6; have HK6 := Aside0.mk hK6; clear hI6 hB6 hK6)
          go_ret
          exact ⟨rfl, HI6.out, HB6.out, HK5.out.trans HK6.out (.inl rfl)⟩
    · have d1 : decide (i < s.size) = false := decide_eq_false hlt
      have hz : b + n = i := by
        have e := HE.out
        rw [show s.data.toList.drop i = [] from List.drop_eq_nil_of_le (by simp; omega)] at e
        simpa using e
      rw [hz] at HV HF
      clear hz
      go_wp2_with fail
      go_quiet (fail)
      have HI3 := HIr
      have HB3 := HBr
      have HK3 := HKr
      have HL := Aside0.mk HI3.out.lt
      go_wp2_with fail
      go_region_held3 (fun w' => w'.cell? ⟨g, 0, none⟩ = some (.string s) ∧ w'.cell? ⟨g, 1, none⟩ = some (.int .i64 i)) (first | go_keep | exact ⟨(hB3.cell (p := ⟨g, 0, none⟩) HL.out).trans hcz0, (hB3.cell (p := ⟨g, 1, none⟩) HL.out).trans hcz1⟩) (first | (go_at_call 93; refine (escape_Value.calls k (s.extract b i) r1 er _ (HGG.out.below (pw_below_drewN HB3.out _)) HV.out).mono ?_; rintro e w4 ⟨rfl, hB3⟩))
      have HB4 := Aside0.mk hB3
      clear hB3
      by_cases her : er = 0
      · obtain ⟨rfl, rfl⟩ := HF.out.1 her
        subst her
        go_wp2_with fail
        go_ret
        exact ⟨rfl, (HI3.out.drewN _).below HB4.out, (pw_below_drewN HB3.out _).trans (HB4.out.mono (pw_below_drewN HB3.out _).size), (keep_drewN HK3.out _).trans (KeepBut.of_below HB4.out g none) (.inl rfl)⟩
      · obtain ⟨rfl, rfl⟩ := HF.out.2 her
        have her1 : (er != 0) = true := bne_iff_ne.2 her
        have her2 : (er == 0) = false := beq_eq_false_iff_ne.2 her
        clear her
        have HI5 := Aside0.mk ((HI3.out.drewN _).below HB4.out)
        have HB5 := Aside0.mk ((pw_below_drewN HB3.out _).trans (HB4.out.mono (pw_below_drewN HB3.out _).size))
        have HK5 := Aside0.mk ((keep_drewN HK3.out _).trans (KeepBut.of_below HB4.out g none) (.inl rfl))
        clear hcz0 hcz1 hcz2 hfz1
        go_wp2_with (go_at_call 54; refine (line_reader_wrong.calls g s i 0 7 b s b 7 w0 _ HGG.out HI5.out HB5.out rfl).mono ?_; rintro e w6 ⟨rfl, hI6, hB6, hK6⟩; have HI6 := Aside0.mk hI6; have HB6 := Aside0.mk hB6; have HK6 := Aside0.mk hK6; clear hI6 hB6 hK6)
        go_ret
        exact ⟨rfl, HI6.out, HB6.out, HK5.out.trans HK6.out (.inl rfl)⟩
theorem line_reader_value.calls (k : Nat) (g : Nat) (s0_0 : ByteArray) (s0_1 : Int) (s0_2 : Int) (r1 : ByteArray) (r2 : ByteArray) (r3 : Int) (r4 : Int) (w0 w : World) (hG : GG w0) (hI : IsS98 w0 w g s0_0 s0_1 s0_2) (hB : Below w0.heap.size w0 w) (h : line_reader_value.f k s0_0 s0_1 s0_2 = some (r1, r2, r3, r4)) :
    Calls Tryz.prog 77 #[.pointer (some ⟨g, 0, none⟩)] w fun e w' => e = .returned (.string r1) ∧ IsS98 w0 w' g r2 r3 r4 ∧ Below w0.heap.size w0 w' ∧ KeepBut w w' g none := by
  unfold line_reader_value.f at h
  by_cases hc : s0_2 = 0 ∧ 0 ≤ s0_1 ∧ s0_1 ≤ (s0_0.size : Int) ∧ s0_0.size ≤ 4611686018427387904
  · rw [if_pos hc] at h
    obtain ⟨rfl, h0, h1, h2⟩ := hc
    obtain ⟨b, rfl⟩ : ∃ b : Nat, s0_1 = (b : Int) := ⟨s0_1.toNat, by omega⟩
    rw [Int.toNat_natCast] at h
    have hfin : ∀ (n : Nat) (er : Int) (r3 r4 : Int), r3 = (if er = 0 then ((b + n : Nat) : Int) else (b : Int)) → r4 = (if er = 0 then 0 else 7) → Aside0 ((er = 0 → r3 = ((b + n : Nat) : Int) ∧ r4 = 0) ∧ (er ≠ 0 → r3 = (b : Int) ∧ r4 = 7)) := by
      intro n er r3 r4 e3 e4
      refine ⟨⟨fun he => ?_, fun he => ?_⟩⟩
      · rw [if_pos he] at e3 e4; exact ⟨e3, e4⟩
      · rw [if_neg he] at e3 e4; exact ⟨e3, e4⟩
    by_cases hq : ∃ hb : b < s0_0.size, s0_0[b] = 34
    · obtain ⟨hb, hq⟩ := hq
      have hdr : s0_0.data.toList.drop b = 34 :: s0_0.data.toList.drop (b + 1) := by
        rw [List.drop_eq_getElem_cons (by simpa using hb)]; rw [← hq]; rfl
      have hex : (s0_0.extract (b + 1) s0_0.size).data.toList = s0_0.data.toList.drop (b + 1) := Lib.extract_to_end _ _
      have hv : valEnd (s0_0.data.toList.drop b) = if Lib.indexByte (s0_0.extract (b + 1) s0_0.size).data.toList 34 < 0 then none else some ((Lib.indexByte (s0_0.extract (b + 1) s0_0.size).data.toList 34).toNat + 2) := by
        rw [hdr, hex]; rfl
      rw [hv] at h
      by_cases hx : Lib.indexByte (s0_0.extract (b + 1) s0_0.size).data.toList 34 < 0
      · rw [if_pos hx] at h
        simp only [Option.some.injEq, Prod.mk.injEq] at h
        obtain ⟨rfl, rfl, rfl, rfl⟩ := h
        exact value_open g _ b w0 w hG hI hB h2 hb hq hx _ _ _ ⟨rfl, rfl, rfl⟩
      · rw [if_neg hx] at h
        obtain ⟨n, hn⟩ : ∃ n : Nat, Lib.indexByte (s0_0.extract (b + 1) s0_0.size).data.toList 34 = n := ⟨(Lib.indexByte (s0_0.extract (b + 1) s0_0.size).data.toList 34).toNat, by omega⟩
        have hlt := idx_lt _ _ (Int.not_lt.1 hx)
        rw [hn, hex, List.length_drop, Array.length_toList] at hlt
        have es : s0_0.data.size = s0_0.size := rfl
        rw [hn, Int.toNat_natCast] at h
        simp only at h
        obtain ⟨p, hp, h⟩ := Option.bind_eq_some_iff.1 h
        simp only [Option.some.injEq, Prod.mk.injEq] at h
        obtain ⟨rfl, rfl, e3, e4⟩ := h
        exact value_quo g _ b w0 w hG hI hB h2 hb hq n hn (by omega) k p.1 p.2 ⟨hp⟩ _ _ (hfin (n + 2) p.2 _ _ e3.symm e4.symm)
    · have hv : valEnd (s0_0.data.toList.drop b) = some ((s0_0.data.toList.drop b).takeWhile plainV).length := by
        unfold valEnd
        rw [if_neg]
        intro hh
        by_cases hb : b < s0_0.size
        · rw [List.drop_eq_getElem_cons (by simpa using hb)] at hh
          exact hq ⟨hb, Option.some.inj hh⟩
        · rw [show s0_0.data.toList.drop b = [] from List.drop_eq_nil_of_le (by simp; omega)] at hh
          cases hh
      rw [hv] at h
      simp only at h
      obtain ⟨p, hp, h⟩ := Option.bind_eq_some_iff.1 h
      simp only [Option.some.injEq, Prod.mk.injEq] at h
      obtain ⟨rfl, rfl, e3, e4⟩ := h
      exact value_plain g _ b w0 w hG hI hB h2 (by omega) (fun hb he => hq ⟨hb, he⟩) _ rfl k p.1 p.2 ⟨hp⟩ _ _ (hfin _ p.2 _ _ e3.symm e4.symm)
  · rw [if_neg hc] at h; cases h
theorem line_reader_value.mono : ∀ a0 a1 a2 k, LeO (line_reader_value.f k a0 a1 a2) (line_reader_value.f (k + 1) a0 a1 a2) := by
  intro a0 a1 a2 k
  unfold line_reader_value.f
  refine LeO.ite ?_ (LeO.refl _)
  cases valEnd (a0.data.toList.drop a1.toNat) with
  | none => exact LeO.refl _
  | some n => exact LeO.bind (escape_Value.mono _ _) (fun _ => LeO.refl _)
end Go.Proofs.YtdojmdbaiddkgaaGreatDoor.Print
end
section
namespace Go.Proofs.YtdojmdbaiddkgaaGreatDoor.Print
open Go.RowKit Go.Proofs.YtdojmdbaiddkgaaGreatDoorW.PrintWords Go.Proofs.YtdojmdbaiddkgaaGreatDoorW.PrintLast Go.Proofs.YtdojmdbaiddkgaaGreatDoorW.PrintMore
set_option linter.unusedVariables false
set_option linter.unusedSimpArgs false
mutual
def line_reader_param.j0 : Nat → List (S77) → Int → Bool → ByteArray → Int → Int → ByteArray → Option (ByteArray × List ByteArray × ByteArray × Int × Int)
 | 0, _, _, _, _, _, _, _ => none
 | k + 1, x1, x5, x25, x1000, x1001, x1002, x144000 => if x25 = true then ((line_reader_wrong.f x1000 x1001 x1002 5 x1001).bind fun bt148 => (line_reader_param.j1 k x1 x5 bt148.1 bt148.2.1 bt148.2.2 x144000)) else (line_reader_param.j1 k x1 x5 x1000 x1001 x1002 x144000)
def line_reader_param.j1 : Nat → List (S77) → Int → ByteArray → Int → Int → ByteArray → Option (ByteArray × List ByteArray × ByteArray × Int × Int)
 | 0, _, _, _, _, _, _ => none
 | k + 1, x1, x5, x1000, x1001, x1002, x144000 => if x1002 = 0 then (if (x1.length : Int) = 60 then (line_reader_param.j2 k x5 true x1000 x1001 x1002 x144000) else ((line_at.f x1 x144000).bind fun t151 => (line_reader_param.j2 k x5 (decide (t151 ≥ 0)) x1000 x1001 x1002 x144000))) else (line_reader_param.j2 k x5 false x1000 x1001 x1002 x144000)
def line_reader_param.j2 : Nat → Int → Bool → ByteArray → Int → Int → ByteArray → Option (ByteArray × List ByteArray × ByteArray × Int × Int)
 | 0, _, _, _, _, _, _ => none
 | k + 1, x5, x48, x1000, x1001, x1002, x144000 => if x48 = true then ((line_reader_wrong.f x1000 x1001 x1002 9 x5).bind fun bt152 => (line_reader_param.j3 k x5 bt152.1 bt152.2.1 bt152.2.2 x144000)) else (line_reader_param.j3 k x5 x1000 x1001 x1002 x144000)
def line_reader_param.j3 : Nat → Int → ByteArray → Int → Int → ByteArray → Option (ByteArray × List ByteArray × ByteArray × Int × Int)
 | 0, _, _, _, _, _ => none
 | k + 1, x5, x1000, x1001, x1002, x144000 => line_reader_param.l0 k x5 true x1000 x1001 x1002 x144000 ([] : List ByteArray)
def line_reader_param.l0 : Nat → Int → Bool → ByteArray → Int → Int → ByteArray → List ByteArray → Option (ByteArray × List ByteArray × ByteArray × Int × Int)
 | 0, _, _, _, _, _, _, _ => none
 | k + 1, x5, x7, x1000, x1001, x1002, x144000, x144001 => if x7 = true then (line_reader_param.j5 k x5 (x1002 == 0) x1000 x1001 x1002 x144000 x144001) else (line_reader_param.j5 k x5 false x1000 x1001 x1002 x144000 x144001)
def line_reader_param.j5 : Nat → Int → Bool → ByteArray → Int → Int → ByteArray → List ByteArray → Option (ByteArray × List ByteArray × ByteArray × Int × Int)
 | 0, _, _, _, _, _, _, _ => none
 | k + 1, x5, x59, x1000, x1001, x1002, x144000, x144001 => if x59 = true then (if (x144001.length : Int) = 60 then ((line_reader_wrong.f x1000 x1001 x1002 9 x5).bind fun bt155 => (some (x144000, x144001, bt155.1, bt155.2.1, bt155.2.2))) else ((line_reader_value.f k x1000 (wrap64 (x1001 + 1)) x1002).bind fun bt158 => (if x144001.length < 8796093022208 then ((line_reader_peek.f bt158.2.1 bt158.2.2.1 bt158.2.2.2).bind fun bt165 => (line_reader_param.l0 k x5 (bt165.1 == 44) bt165.2.1 bt165.2.2.1 bt165.2.2.2 x144000 (x144001 ++ [bt158.1]))) else (none)))) else (some (x144000, x144001, x1000, x1001, x1002))
end
def line_reader_param.f (k : Nat) (s0_0 : ByteArray) (s0_1 : Int) (s0_2 : Int) (l1 : List (S77)) : Option (ByteArray × List ByteArray × ByteArray × Int × Int) := (line_reader_name.f s0_0 s0_1 s0_2).bind fun bt139 => (if bt139.2.2.2 = 0 then ((line_reader_peek.f bt139.2.1 bt139.2.2.1 bt139.2.2.2).bind fun bt144 => (line_reader_param.j0 k l1 s0_1 (bt144.1 != 61) bt144.2.1 bt144.2.2.1 bt144.2.2.2 bt139.1)) else (line_reader_param.j0 k l1 s0_1 false bt139.2.1 bt139.2.2.1 bt139.2.2.2 bt139.1))
theorem line_reader_param.mono_l : ∀ k, (∀ y0 y1 y2 y3 y4 y5 y6, LeO (line_reader_param.j0 k y0 y1 y2 y3 y4 y5 y6) (line_reader_param.j0 (k + 1) y0 y1 y2 y3 y4 y5 y6)) ∧ (∀ y0 y1 y2 y3 y4 y5, LeO (line_reader_param.j1 k y0 y1 y2 y3 y4 y5) (line_reader_param.j1 (k + 1) y0 y1 y2 y3 y4 y5)) ∧ (∀ y0 y1 y2 y3 y4 y5, LeO (line_reader_param.j2 k y0 y1 y2 y3 y4 y5) (line_reader_param.j2 (k + 1) y0 y1 y2 y3 y4 y5)) ∧ (∀ y0 y1 y2 y3 y4, LeO (line_reader_param.j3 k y0 y1 y2 y3 y4) (line_reader_param.j3 (k + 1) y0 y1 y2 y3 y4)) ∧ (∀ y0 y1 y2 y3 y4 y5 y6, LeO (line_reader_param.l0 k y0 y1 y2 y3 y4 y5 y6) (line_reader_param.l0 (k + 1) y0 y1 y2 y3 y4 y5 y6)) ∧ (∀ y0 y1 y2 y3 y4 y5 y6, LeO (line_reader_param.j5 k y0 y1 y2 y3 y4 y5 y6) (line_reader_param.j5 (k + 1) y0 y1 y2 y3 y4 y5 y6))
 | 0 => ⟨fun _ _ _ _ _ _ _ r h => by simp [line_reader_param.j0] at h, fun _ _ _ _ _ _ r h => by simp [line_reader_param.j1] at h, fun _ _ _ _ _ _ r h => by simp [line_reader_param.j2] at h, fun _ _ _ _ _ r h => by simp [line_reader_param.j3] at h, fun _ _ _ _ _ _ _ r h => by simp [line_reader_param.l0] at h, fun _ _ _ _ _ _ _ r h => by simp [line_reader_param.j5] at h⟩
 | k + 1 => by
  obtain ⟨ih0, ih1, ih2, ih3, ih4, ih5⟩ := line_reader_param.mono_l k
  refine ⟨?_, ?_, ?_, ?_, ?_, ?_⟩
  all_goals intros
  all_goals first | unfold line_reader_param.j0 | unfold line_reader_param.j1 | unfold line_reader_param.j2 | unfold line_reader_param.j3 | unfold line_reader_param.l0 | unfold line_reader_param.j5
  all_goals repeat' first
   | (with_reducible first | exact ih0 _ _ _ _ _ _ _ | exact ih1 _ _ _ _ _ _ | exact ih2 _ _ _ _ _ _ | exact ih3 _ _ _ _ _ | exact ih4 _ _ _ _ _ _ _ | exact ih5 _ _ _ _ _ _ _ | exact line_reader_value.mono _ _ _ _ | exact LeO.refl _ | exact LeO.none _ | refine LeO.ite ?_ ?_ | refine LeO.bind ?_ (fun _ => ?_)) | exact ih0 _ _ _ _ _ _ _ | exact ih1 _ _ _ _ _ _ | exact ih2 _ _ _ _ _ _ | exact ih3 _ _ _ _ _ | exact ih4 _ _ _ _ _ _ _ | exact ih5 _ _ _ _ _ _ _ | exact line_reader_value.mono _ _ _ _ | exact LeO.none _ | refine LeO.ite ?_ ?_ | refine LeO.bind ?_ (fun _ => ?_)
theorem line_reader_param.mono : ∀ a0 a1 a2 a3 k, LeO (line_reader_param.f k a0 a1 a2 a3) (line_reader_param.f (k + 1) a0 a1 a2 a3) := by
 intro a0 a1 a2 a3 k
 obtain ⟨ih0, ih1, ih2, ih3, ih4, ih5⟩ := line_reader_param.mono_l k
 unfold line_reader_param.f
 repeat' first
   | (with_reducible first | exact ih0 _ _ _ _ _ _ _ | exact ih1 _ _ _ _ _ _ | exact ih2 _ _ _ _ _ _ | exact ih3 _ _ _ _ _ | exact ih4 _ _ _ _ _ _ _ | exact ih5 _ _ _ _ _ _ _ | exact line_reader_value.mono _ _ _ _ | exact LeO.refl _ | exact LeO.none _ | refine LeO.ite ?_ ?_ | refine LeO.bind ?_ (fun _ => ?_)) | exact ih0 _ _ _ _ _ _ _ | exact ih1 _ _ _ _ _ _ | exact ih2 _ _ _ _ _ _ | exact ih3 _ _ _ _ _ | exact ih4 _ _ _ _ _ _ _ | exact ih5 _ _ _ _ _ _ _ | exact line_reader_value.mono _ _ _ _ | exact LeO.none _ | refine LeO.ite ?_ ?_ | refine LeO.bind ?_ (fun _ => ?_)
set_option maxHeartbeats 8000000 in
set_option maxRecDepth 100000 in
theorem line_reader_param.calls (k : Nat) (g : Nat) (s0_0 : ByteArray) (s0_1 : Int) (s0_2 : Int) (A1 : Option Addr) (c1 : Nat) (l1 : List (S77)) (r1 : ByteArray) (r2 : List ByteArray) (r3 : ByteArray) (r4 : Int) (r5 : Int) (w0 w : World) (hG : GG w0) (hI : IsS98 w0 w g s0_0 s0_1 s0_2) (hB : Below w0.heap.size w0 w) (hr1 : ∀ W_, KeepBut w W_ g none → Kd.C k77 W_ A1 l1.length l1) (hc1 : l1.length ≤ c1) (h : line_reader_param.f k s0_0 s0_1 s0_2 l1 = some (r1, r2, r3, r4, r5)) :
  Calls Tryz.prog 53 #[.pointer (some ⟨g, 0, none⟩), .slice A1 l1.length c1] w fun e w' => ∃ v1_ : Value, e = .returned (.agg #[.string r1, v1_]) ∧ Kd.R Kd.string 9 w' w.heap.size (fun _ => True) v1_ r2 ∧ IsS98 w0 w' g r3 r4 r5 ∧ Below w0.heap.size w0 w' ∧ KeepBut w w' g none := by
 have hu77 := Tryz.underlying77; have HR1 := Aside0.mk hr1; have HC1 := Aside0.mk hc1; clear hr1 hc1; have HI0 := Aside0.mk hI; have HK := Aside0.mk (KeepBut.refl w g none); have HL := Aside0.mk hB.size; clear hI; have HW0 := Aside0.mk hB.size; have HB := Aside0.mk hB; clear hB; have H : ((line_reader_name.f s0_0 s0_1 s0_2).bind fun bt139 => (if bt139.2.2.2 = 0 then ((line_reader_peek.f bt139.2.1 bt139.2.2.1 bt139.2.2.2).bind fun bt144 => (line_reader_param.j0 k l1 s0_1 (bt144.1 != 61) bt144.2.1 bt144.2.2.1 bt144.2.2.2 bt139.1)) else (line_reader_param.j0 k l1 s0_1 false bt139.2.1 bt139.2.2.1 bt139.2.2.2 bt139.1))) = some (r1, r2, r3, r4, r5) := h; clear h; replace H := Option.bind_eq_some_iff.mp H; obtain ⟨⟨t139, t140, t141, t142⟩, A30, H⟩ := H
 replace H : (if t142 = 0 then ((line_reader_peek.f t140 t141 t142).bind fun bt144 => (line_reader_param.j0 k l1 s0_1 (bt144.1 != 61) bt144.2.1 bt144.2.2.1 bt144.2.2.2 t139)) else (line_reader_param.j0 k l1 s0_1 false t140 t141 t142 t139)) = some (r1, r2, r3, r4, r5) := H; have A3 := Aside0.mk A30; clear A30; have HC4 := Aside0.mk H; clear H
 go_enter Tryz.func53, Tryz.ntmps53
 go_upto_region 3 with (first | ((with_reducible refine gate_dst (N := 4) rfl ?_); (try (refine gate_guard (by rfl) ?_; dsimp only)); refine zbox (N := 4) #[.string (⟨#[]⟩ : ByteArray), .slice none 0 0] 77 (fun gb138 hg w5 hbox hb => ?_); replace HB := Aside0.mk (below_step (by repeat (first | (with_reducible first | exact HB.out | apply below_alloc | apply pw_below_drewN | apply below_drew1 | refine below_set ?_ (IsS98.ge HI0.out)) | exact HB.out)) hb); replace BK138 := Aside0.mk hbox; replace GW138 := Aside0.mk ((by rw [hg]; exact (keep_size (w := w) (g := g) (row := none) (by repeat (first | (with_reducible first | exact HK.out | apply KeepBut.set_ | apply keep_drewN | apply keep_drew | apply keep_alloc) | exact HK.out))) : w.heap.size ≤ gb138)); replace GE138 := Aside0.mk ((Nat.le_trans HW0.out (by rw [hg]; exact (keep_size (w := w) (g := g) (row := none) (by repeat (first | (with_reducible first | exact HK.out | apply KeepBut.set_ | apply keep_drewN | apply keep_drew | apply keep_alloc) | exact HK.out))) : w.heap.size ≤ gb138) : w0.heap.size ≤ gb138)); replace HK := Aside0.mk (KeepBut.trans (by repeat (first | (with_reducible first | exact HK.out | apply KeepBut.set_ | apply keep_drewN | apply keep_drew | apply keep_alloc) | exact HK.out)) (KeepBut.of_below hb g none) (.inl rfl)); replace NB0_138 := Aside0.mk ((by rw [hg]; exact Nat.ne_of_lt (IsS98.lt (show IsS98 w0 _ g s0_0 s0_1 s0_2 from by repeat (first | (with_reducible first | exact HI0.out | apply IsS98.alloc | apply IsS98.drewN | apply IsS98.drew | apply IsS98.set_0 | apply IsS98.set_1 | apply IsS98.set_2) | exact HI0.out))) : g ≠ gb138)); replace NB138_0 := Aside0.mk ((by rw [hg]; exact Nat.ne_of_gt (IsS98.lt (show IsS98 w0 _ g s0_0 s0_1 s0_2 from by repeat (first | (with_reducible first | exact HI0.out | apply IsS98.alloc | apply IsS98.drewN | apply IsS98.drew | apply IsS98.set_0 | apply IsS98.set_1 | apply IsS98.set_2) | exact HI0.out))) : gb138 ≠ g)); replace HI0 := Aside0.mk (IsS98.below (by repeat (first | (with_reducible first | exact HI0.out | apply IsS98.alloc | apply IsS98.drewN | apply IsS98.drew | apply IsS98.set_0 | apply IsS98.set_1 | apply IsS98.set_2) | exact HI0.out)) hb); clear hb hbox hg; obtain ⟨HGz6, hgz6⟩ := HI0.out; have hcz6_0 := cellS98_0 HGz6; have hcz6_1 := cellS98_1 HGz6; have hcz6_2 := cellS98_2 HGz6; have hfz6_0 := blk_frozen HGz6 0; have hfz6_1 := blk_frozen HGz6 1; have hfz6_2 := blk_frozen HGz6 2; clear HGz6 hgz6) | ((with_reducible refine gate_callee (f := 51) rfl ?_); refine goesL_ (some 14) rfl rfl Tryz.func51 (by kernel_rfl) rfl #[.pointer (some ⟨g, 0, none⟩)] rfl zA ?_; (with_reducible refine (line_reader_name.calls g s0_0 s0_1 s0_2 t139 t140 t141 t142 w0 _ (by first | (with_reducible exact hG) | exact GG.below hG (by repeat (first | (with_reducible first | exact HB.out | apply below_alloc | apply pw_below_drewN | apply below_drew1 | refine below_set ?_ (IsS98.ge HI0.out) | refine below_set ?_ GE138.out) | exact HB.out))) ?side1 ?side2 A3.out).mono ?_); (case side1 => repeat (first | (with_reducible first | exact HI0.out | apply IsS98.alloc | apply IsS98.drewN | apply IsS98.drew | apply IsS98.set_0 | apply IsS98.set_1 | apply IsS98.set_2 | refine IsS98.far ?_ NB0_138.out _) | exact HI0.out)); (case side2 => repeat (first | (with_reducible first | exact HB.out | apply below_alloc | apply pw_below_drewN | apply below_drew1 | refine below_set ?_ (IsS98.ge HI0.out) | refine below_set ?_ GE138.out) | exact HB.out)); rintro e w7 ⟨rfl, hi, hb, hk⟩; refine ⟨_, rfl, ?_⟩; replace BK138 := Aside0.mk (KeepBut.blk hk (g' := gb138) (o := .cells #[.string (⟨#[]⟩ : ByteArray), .slice none 0 0] 77 (0, 0)) (blk_below BK138.out zX) NB138_0.out (by simp)); replace HK := Aside0.mk (KeepBut.trans (by repeat (first | (with_reducible first | exact HK.out | apply KeepBut.set_ | apply keep_drewN | apply keep_drew | apply keep_alloc | refine keep_far ?_ GW138.out _) | exact HK.out)) hk (.inl rfl)); replace HB := Aside0.mk (hb); replace HI0 := Aside0.mk (hi); clear hb) | ((with_reducible refine gate_dst (N := 6) rfl ?_); (try (refine gate_guard (by rfl) ?_; dsimp only)); refine zbox (N := 6) #[.string (⟨#[]⟩ : ByteArray), .slice none 0 0] 77 (fun gb143 hg w8 hbox hb => ?_); replace HB := Aside0.mk (below_step (by repeat (first | (with_reducible first | exact HB.out | apply below_alloc | apply pw_below_drewN | apply below_drew1 | refine below_set ?_ (IsS98.ge HI0.out) | refine below_set ?_ GE138.out) | exact HB.out)) hb); replace BK143 := Aside0.mk hbox; replace GW143 := Aside0.mk ((by rw [hg]; exact (keep_size (w := w) (g := g) (row := none) (by repeat (first | (with_reducible first | exact HK.out | apply KeepBut.set_ | apply keep_drewN | apply keep_drew | apply keep_alloc | refine keep_far ?_ GW138.out _) | exact HK.out))) : w.heap.size ≤ gb143)); replace GE143 := Aside0.mk ((Nat.le_trans HW0.out (by rw [hg]; exact (keep_size (w := w) (g := g) (row := none) (by repeat (first | (with_reducible first | exact HK.out | apply KeepBut.set_ | apply keep_drewN | apply keep_drew | apply keep_alloc | refine keep_far ?_ GW138.out _) | exact HK.out))) : w.heap.size ≤ gb143) : w0.heap.size ≤ gb143)); replace HK := Aside0.mk (KeepBut.trans (by repeat (first | (with_reducible first | exact HK.out | apply KeepBut.set_ | apply keep_drewN | apply keep_drew | apply keep_alloc | refine keep_far ?_ GW138.out _) | exact HK.out)) (KeepBut.of_below hb g none) (.inl rfl)); replace NB138_143 := zn BK138 hg; replace NB143_138 := zm BK138 hg; replace BK138 := zb BK138 hb; replace NB0_143 := Aside0.mk ((by rw [hg]; exact Nat.ne_of_lt (IsS98.lt (show IsS98 w0 _ g t140 t141 t142 from by repeat (first | (with_reducible first | exact HI0.out | apply IsS98.alloc | apply IsS98.drewN | apply IsS98.drew | apply IsS98.set_0 | apply IsS98.set_1 | apply IsS98.set_2 | refine IsS98.far ?_ NB0_138.out _) | exact HI0.out))) : g ≠ gb143)); replace NB143_0 := Aside0.mk ((by rw [hg]; exact Nat.ne_of_gt (IsS98.lt (show IsS98 w0 _ g t140 t141 t142 from by repeat (first | (with_reducible first | exact HI0.out | apply IsS98.alloc | apply IsS98.drewN | apply IsS98.drew | apply IsS98.set_0 | apply IsS98.set_1 | apply IsS98.set_2 | refine IsS98.far ?_ NB0_138.out _) | exact HI0.out))) : gb143 ≠ g)); replace HI0 := Aside0.mk (IsS98.below (by repeat (first | (with_reducible first | exact HI0.out | apply IsS98.alloc | apply IsS98.drewN | apply IsS98.drew | apply IsS98.set_0 | apply IsS98.set_1 | apply IsS98.set_2 | refine IsS98.far ?_ NB0_138.out _) | exact HI0.out)) hb); clear hb hbox hg; have hnb9 := NB143_138.out; have hnc9 := NB138_143.out; have hnb10 := NB143_0.out; have hnc10 := NB0_143.out; obtain ⟨hcz11_0, hcz11_1, hfz11_0, hfz11_1⟩ := zk2 BK143))
 (try simp only [Act.put, List.setIfInBounds_toArray, List.set_cons_zero, List.set_cons_succ])
 go_cut [25] (fun v25 wc => ∃ (kq : Nat) (x25_3 : Bool) (x1000_3 : ByteArray) (x1001_3 : Int) (x1002_3 : Int), v25 = .bool x25_3 ∧ Aside0 (line_reader_param.j0 kq l1 s0_1 x25_3 x1000_3 x1001_3 x1002_3 t139 = some (r1, r2, r3, r4, r5)) ∧ Aside0 (kq ≤ k) ∧ Aside0 (wc.heap[gb138]? = some (.cells #[.string (⟨#[]⟩ : ByteArray), (.slice none 0 0)] 77 (0, 0))) ∧ Aside0 (wc.heap[gb143]? = some (.cells #[.string t139, (.slice none 0 0)] 77 (0, 0))) ∧ Aside0 (IsS98 w0 wc g x1000_3 x1001_3 x1002_3) ∧ Aside0 (KeepBut w wc g none) ∧ Aside0 (Below w0.heap.size w0 wc))
 case first =>
  have H := HC4.out; clear HC4; replace H := zIe H; rcases H with ⟨-, c12b0, c12b1, H⟩ | ⟨c12, c12b0, c12b1, H⟩
  ·(first | rw [c12b0] | (simp only [i64_w, i32_w]; rw [c12b0]) | skip)
   replace H := Option.bind_eq_some_iff.mp H; obtain ⟨⟨t144, t145, t146, t147⟩, A130, H⟩ := H; replace H : (line_reader_param.j0 k l1 s0_1 (t144 != 61) t145 t146 t147 t139) = some (r1, r2, r3, r4, r5) := H; have A13 := Aside0.mk A130; clear A130; have H' := Aside0.mk H; clear H; obtain ⟨HGz14, hgz14⟩ := HI0.out; have hcz14_0 := cellS98_0 HGz14; have hcz14_1 := cellS98_1 HGz14; have hcz14_2 := cellS98_2 HGz14; have hfz14_0 := blk_frozen HGz14 0; have hfz14_1 := blk_frozen HGz14 1; have hfz14_2 := blk_frozen HGz14 2; clear HGz14 hgz14
   go_wp2_with (first | (go_at_call 52; (with_reducible refine (line_reader_peek.calls g t140 t141 t142 t144 t145 t146 t147 w0 _ (by first | (with_reducible exact hG) | exact GG.below hG (by repeat (first | (with_reducible first | exact HB.out | apply below_alloc | apply pw_below_drewN | apply below_drew1 | refine below_set ?_ (IsS98.ge HI0.out) | refine below_set ?_ GE138.out | refine below_set ?_ GE143.out) | exact HB.out))) ?side1 ?side2 A13.out).mono ?_); (case side1 => repeat (first | (with_reducible first | exact HI0.out | apply IsS98.alloc | apply IsS98.drewN | apply IsS98.drew | apply IsS98.set_0 | apply IsS98.set_1 | apply IsS98.set_2 | refine IsS98.far ?_ NB0_138.out _ | refine IsS98.far ?_ NB0_143.out _) | exact HI0.out)); (case side2 => repeat (first | (with_reducible first | exact HB.out | apply below_alloc | apply pw_below_drewN | apply below_drew1 | refine below_set ?_ (IsS98.ge HI0.out) | refine below_set ?_ GE138.out | refine below_set ?_ GE143.out) | exact HB.out)); rintro e w15 ⟨rfl, hi, hb, hk⟩; replace BK138 := Aside0.mk (KeepBut.blk hk (g' := gb138) (o := .cells #[.string (⟨#[]⟩ : ByteArray), .slice none 0 0] 77 (0, 0)) (by (with_reducible repeat (first | refine blk_drewN ?_ _ | refine blk_drew ?_ | refine blk_alloc ?_ _)); refine blk_far ?_ NB138_143.out _; (with_reducible repeat (first | refine blk_drewN ?_ _ | refine blk_drew ?_ | refine blk_alloc ?_ _)); refine blk_far ?_ NB138_143.out _; (with_reducible repeat (first | refine blk_drewN ?_ _ | refine blk_drew ?_ | refine blk_alloc ?_ _)); exact BK138.out) NB138_0.out (by simp)); replace BK143 := Aside0.mk (KeepBut.blk hk (g' := gb143) (o := .cells #[.string t139, .slice none 0 0] 77 (0, 0)) (by (with_reducible repeat (first | refine blk_drewN ?_ _ | refine blk_drew ?_ | refine blk_alloc ?_ _)); refine blk_put (cs := #[.string t139, .slice none 0 0]) ?_ 1 _ rfl; (with_reducible repeat (first | refine blk_drewN ?_ _ | refine blk_drew ?_ | refine blk_alloc ?_ _)); refine blk_put (cs := #[.string (⟨#[]⟩ : ByteArray), .slice none 0 0]) ?_ 0 _ rfl; (with_reducible repeat (first | refine blk_drewN ?_ _ | refine blk_drew ?_ | refine blk_alloc ?_ _)); exact BK143.out) NB143_0.out (by simp)); replace HK := Aside0.mk (KeepBut.trans (by repeat (first | (with_reducible first | exact HK.out | apply KeepBut.set_ | apply keep_drewN | apply keep_drew | apply keep_alloc | refine keep_far ?_ GW138.out _ | refine keep_far ?_ GW143.out _) | exact HK.out)) hk (.inl rfl)); replace HB := Aside0.mk (hb); replace HI0 := Aside0.mk (hi); clear hb))
   go_meet
   case rel => exact ⟨_, ((t144 != 61)), (t145), (t146), (t147), zS, H', ⟨by first | omega | exact Nat.le_refl _⟩, ⟨blk_below BK138.out zX⟩, ⟨blk_below BK143.out zX⟩, ⟨by repeat (first | (with_reducible first | exact HI0.out | apply IsS98.alloc | apply IsS98.drewN | apply IsS98.drew | apply IsS98.set_0 | apply IsS98.set_1 | apply IsS98.set_2 | refine IsS98.far ?_ NB0_138.out _ | refine IsS98.far ?_ NB0_143.out _) | exact HI0.out)⟩, ⟨by repeat (first | (with_reducible first | exact HK.out | apply KeepBut.set_ | apply keep_drewN | apply keep_drew | apply keep_alloc | refine keep_far ?_ GW138.out _ | refine keep_far ?_ GW143.out _) | exact HK.out)⟩, ⟨by repeat (first | (with_reducible first | exact HB.out | apply below_alloc | apply pw_below_drewN | apply below_drew1 | refine below_set ?_ (IsS98.ge HI0.out) | refine below_set ?_ GE138.out | refine below_set ?_ GE143.out) | exact HB.out)⟩⟩
  ·(first | rw [c12b0] | (simp only [i64_w, i32_w]; rw [c12b0]) | skip)
   have H' := Aside0.mk H; clear H; obtain ⟨HGz16, hgz16⟩ := HI0.out; have hcz16_0 := cellS98_0 HGz16; have hcz16_1 := cellS98_1 HGz16; have hcz16_2 := cellS98_2 HGz16; have hfz16_0 := blk_frozen HGz16 0; have hfz16_1 := blk_frozen HGz16 1; have hfz16_2 := blk_frozen HGz16 2; clear HGz16 hgz16; go_wp2
   go_meet
   case rel => exact ⟨_, (false), (t140), (t141), (t142), zS, H', ⟨by first | omega | exact Nat.le_refl _⟩, ⟨by (with_reducible repeat (first | refine blk_drewN ?_ _ | refine blk_drew ?_ | refine blk_alloc ?_ _)); refine blk_far ?_ NB138_143.out _; (with_reducible repeat (first | refine blk_drewN ?_ _ | refine blk_drew ?_ | refine blk_alloc ?_ _)); refine blk_far ?_ NB138_143.out _; (with_reducible repeat (first | refine blk_drewN ?_ _ | refine blk_drew ?_ | refine blk_alloc ?_ _)); exact BK138.out⟩, ⟨by (with_reducible repeat (first | refine blk_drewN ?_ _ | refine blk_drew ?_ | refine blk_alloc ?_ _)); refine blk_put (cs := #[.string t139, .slice none 0 0]) ?_ 1 _ rfl; (with_reducible repeat (first | refine blk_drewN ?_ _ | refine blk_drew ?_ | refine blk_alloc ?_ _)); refine blk_put (cs := #[.string (⟨#[]⟩ : ByteArray), .slice none 0 0]) ?_ 0 _ rfl; (with_reducible repeat (first | refine blk_drewN ?_ _ | refine blk_drew ?_ | refine blk_alloc ?_ _)); exact BK143.out⟩, ⟨by repeat (first | (with_reducible first | exact HI0.out | apply IsS98.alloc | apply IsS98.drewN | apply IsS98.drew | apply IsS98.set_0 | apply IsS98.set_1 | apply IsS98.set_2 | refine IsS98.far ?_ NB0_138.out _ | refine IsS98.far ?_ NB0_143.out _) | exact HI0.out)⟩, ⟨by repeat (first | (with_reducible first | exact HK.out | apply KeepBut.set_ | apply keep_drewN | apply keep_drew | apply keep_alloc | refine keep_far ?_ GW138.out _ | refine keep_far ?_ GW143.out _) | exact HK.out)⟩, ⟨by repeat (first | (with_reducible first | exact HB.out | apply below_alloc | apply pw_below_drewN | apply below_drew1 | refine below_set ?_ (IsS98.ge HI0.out) | refine below_set ?_ GE138.out | refine below_set ?_ GE143.out) | exact HB.out)⟩⟩
 case rest =>
  clear HC4; clear hcz11_0 hcz11_1 hcz6_0 hcz6_1 hcz6_2 hfz11_0 hfz11_1 hfz6_0 hfz6_1 hfz6_2; obtain ⟨kq, x25_3, x1000_3, x1001_3, x1002_3, rfl, HA, HJ3, BK138, BK143, HI0, HK, HB⟩ := hcut
  cases kq with
  | zero => exact absurd HA.out (by simp [line_reader_param.j0])
  | succ kj3 =>
   have H := HA.out; clear HA; simp only [line_reader_param.j0] at H; have HC17 := Aside0.mk H; clear H
   go_upto_if 25 with (fail)
   go_cut [] (fun wc => ∃ (kq : Nat) (x1000_16 : ByteArray) (x1001_16 : Int) (x1002_16 : Int), Aside0 (line_reader_param.j1 kq l1 s0_1 x1000_16 x1001_16 x1002_16 t139 = some (r1, r2, r3, r4, r5)) ∧ Aside0 (kq ≤ kj3) ∧ Aside0 (wc.heap[gb138]? = some (.cells #[.string (⟨#[]⟩ : ByteArray), (.slice none 0 0)] 77 (0, 0))) ∧ Aside0 (wc.heap[gb143]? = some (.cells #[.string t139, (.slice none 0 0)] 77 (0, 0))) ∧ Aside0 (IsS98 w0 wc g x1000_16 x1001_16 x1002_16) ∧ Aside0 (KeepBut w wc g none) ∧ Aside0 (Below w0.heap.size w0 wc))
   case first =>
    have H := HC17.out; clear HC17; replace H := zIb H; rcases H with ⟨rfl, H⟩ | ⟨rfl, H⟩
    ·replace H := Option.bind_eq_some_iff.mp H; obtain ⟨⟨t148, t149, t150⟩, A190, H⟩ := H; replace H : (line_reader_param.j1 kj3 l1 s0_1 t148 t149 t150 t139) = some (r1, r2, r3, r4, r5) := H; have A19 := Aside0.mk A190; clear A190; have H' := Aside0.mk H; clear H; obtain ⟨HGz20, hgz20⟩ := HI0.out; have hcz20_0 := cellS98_0 HGz20; have hcz20_1 := cellS98_1 HGz20; have hcz20_2 := cellS98_2 HGz20; have hfz20_0 := blk_frozen HGz20 0; have hfz20_1 := blk_frozen HGz20 1; have hfz20_2 := blk_frozen HGz20 2; clear HGz20 hgz20
     go_wp2_with (first | ((with_reducible refine gate_callee (f := 54) rfl ?_); refine goesL_ (some 31) rfl rfl Tryz.func54 (by kernel_rfl) rfl #[.pointer (some ⟨g, 0, none⟩), .int .i64 5, .int .i64 x1001_3] rfl zA ?_; (with_reducible refine (line_reader_wrong.calls g x1000_3 x1001_3 x1002_3 5 x1001_3 t148 t149 t150 w0 _ (by first | (with_reducible exact hG) | exact GG.below hG (by repeat (first | (with_reducible first | exact HB.out | apply below_alloc | apply pw_below_drewN | apply below_drew1 | refine below_set ?_ (IsS98.ge HI0.out) | refine below_set ?_ GE138.out | refine below_set ?_ GE143.out) | exact HB.out))) ?side1 ?side2 A19.out).mono ?_); (case side1 => repeat (first | (with_reducible first | exact HI0.out | apply IsS98.alloc | apply IsS98.drewN | apply IsS98.drew | apply IsS98.set_0 | apply IsS98.set_1 | apply IsS98.set_2 | refine IsS98.far ?_ NB0_138.out _ | refine IsS98.far ?_ NB0_143.out _) | exact HI0.out)); (case side2 => repeat (first | (with_reducible first | exact HB.out | apply below_alloc | apply pw_below_drewN | apply below_drew1 | refine below_set ?_ (IsS98.ge HI0.out) | refine below_set ?_ GE138.out | refine below_set ?_ GE143.out) | exact HB.out)); rintro e w21 ⟨rfl, hi, hb, hk⟩; refine ⟨_, rfl, ?_⟩; replace BK138 := Aside0.mk (KeepBut.blk hk (g' := gb138) (o := .cells #[.string (⟨#[]⟩ : ByteArray), .slice none 0 0] 77 (0, 0)) (blk_below BK138.out zX) NB138_0.out (by simp)); replace BK143 := Aside0.mk (KeepBut.blk hk (g' := gb143) (o := .cells #[.string t139, .slice none 0 0] 77 (0, 0)) (blk_below BK143.out zX) NB143_0.out (by simp)); replace HK := Aside0.mk (KeepBut.trans (by repeat (first | (with_reducible first | exact HK.out | apply KeepBut.set_ | apply keep_drewN | apply keep_drew | apply keep_alloc | refine keep_far ?_ GW138.out _ | refine keep_far ?_ GW143.out _) | exact HK.out)) hk (.inl rfl)); replace HB := Aside0.mk (hb); replace HI0 := Aside0.mk (hi); clear hb))
     go_meet
     case rel => exact ⟨_, (t148), (t149), (t150), H', ⟨by have := HJ3.out; first | omega | exact Nat.le_refl _⟩, ⟨blk_below BK138.out zX⟩, ⟨blk_below BK143.out zX⟩, ⟨by repeat (first | (with_reducible first | exact HI0.out | apply IsS98.alloc | apply IsS98.drewN | apply IsS98.drew | apply IsS98.set_0 | apply IsS98.set_1 | apply IsS98.set_2 | refine IsS98.far ?_ NB0_138.out _ | refine IsS98.far ?_ NB0_143.out _) | exact HI0.out)⟩, ⟨by repeat (first | (with_reducible first | exact HK.out | apply KeepBut.set_ | apply keep_drewN | apply keep_drew | apply keep_alloc | refine keep_far ?_ GW138.out _ | refine keep_far ?_ GW143.out _) | exact HK.out)⟩, ⟨by repeat (first | (with_reducible first | exact HB.out | apply below_alloc | apply pw_below_drewN | apply below_drew1 | refine below_set ?_ (IsS98.ge HI0.out) | refine below_set ?_ GE138.out | refine below_set ?_ GE143.out) | exact HB.out)⟩⟩
    ·have H' := Aside0.mk H; clear H; go_wp2
     go_meet
     case rel => exact ⟨_, (x1000_3), (x1001_3), (x1002_3), H', ⟨by have := HJ3.out; first | omega | exact Nat.le_refl _⟩, ⟨blk_below BK138.out zX⟩, ⟨blk_below BK143.out zX⟩, ⟨by repeat (first | (with_reducible first | exact HI0.out | apply IsS98.alloc | apply IsS98.drewN | apply IsS98.drew | apply IsS98.set_0 | apply IsS98.set_1 | apply IsS98.set_2 | refine IsS98.far ?_ NB0_138.out _ | refine IsS98.far ?_ NB0_143.out _) | exact HI0.out)⟩, ⟨by repeat (first | (with_reducible first | exact HK.out | apply KeepBut.set_ | apply keep_drewN | apply keep_drew | apply keep_alloc | refine keep_far ?_ GW138.out _ | refine keep_far ?_ GW143.out _) | exact HK.out)⟩, ⟨by repeat (first | (with_reducible first | exact HB.out | apply below_alloc | apply pw_below_drewN | apply below_drew1 | refine below_set ?_ (IsS98.ge HI0.out) | refine below_set ?_ GE138.out | refine below_set ?_ GE143.out) | exact HB.out)⟩⟩
   case rest =>
    clear HC17; obtain ⟨kq, x1000_16, x1001_16, x1002_16, HA, HJ16, BK138, BK143, HI0, HK, HB⟩ := hcut
    cases kq with
    | zero => exact absurd HA.out (by simp [line_reader_param.j1])
    | succ kj16 =>
     have H := HA.out; clear HA; simp only [line_reader_param.j1] at H; have HC22 := Aside0.mk H; clear H
     go_upto_region 5 with (fail)
     go_cut [48] (fun v48 wc => ∃ (kq : Nat) (x48_21 : Bool), v48 = .bool x48_21 ∧ Aside0 (line_reader_param.j2 kq s0_1 x48_21 x1000_16 x1001_16 x1002_16 t139 = some (r1, r2, r3, r4, r5)) ∧ Aside0 (kq ≤ kj16) ∧ Aside0 (wc.heap[gb138]? = some (.cells #[.string (⟨#[]⟩ : ByteArray), (.slice none 0 0)] 77 (0, 0))) ∧ Aside0 (wc.heap[gb143]? = some (.cells #[.string t139, (.slice none 0 0)] 77 (0, 0))) ∧ Aside0 (IsS98 w0 wc g x1000_16 x1001_16 x1002_16) ∧ Aside0 (KeepBut w wc g none) ∧ Aside0 (Below w0.heap.size w0 wc))
     case first =>
      have H := HC22.out; clear HC22; replace H := zIe H; rcases H with ⟨-, c23b0, c23b1, H⟩ | ⟨c23, c23b0, c23b1, H⟩
      ·(first | rw [c23b0] | (simp only [i64_w, i32_w]; rw [c23b0]) | skip)
       replace H := zIe H; rcases H with ⟨-, c24b0, c24b1, H⟩ | ⟨c24, c24b0, c24b1, H⟩
       ·have H' := Aside0.mk H; clear H; obtain ⟨HGz25, hgz25⟩ := HI0.out; have hcz25_0 := cellS98_0 HGz25; have hcz25_1 := cellS98_1 HGz25; have hcz25_2 := cellS98_2 HGz25; have hfz25_0 := blk_frozen HGz25 0; have hfz25_1 := blk_frozen HGz25 1; have hfz25_2 := blk_frozen HGz25 2; clear HGz25 hgz25; go_wp2
        go_meet
        case rel => exact ⟨_, (true), zS, H', ⟨by have := HJ3.out; have := HJ16.out; first | omega | exact Nat.le_refl _⟩, ⟨blk_below BK138.out zX⟩, ⟨blk_below BK143.out zX⟩, ⟨by repeat (first | (with_reducible first | exact HI0.out | apply IsS98.alloc | apply IsS98.drewN | apply IsS98.drew | apply IsS98.set_0 | apply IsS98.set_1 | apply IsS98.set_2 | refine IsS98.far ?_ NB0_138.out _ | refine IsS98.far ?_ NB0_143.out _) | exact HI0.out)⟩, ⟨by repeat (first | (with_reducible first | exact HK.out | apply KeepBut.set_ | apply keep_drewN | apply keep_drew | apply keep_alloc | refine keep_far ?_ GW138.out _ | refine keep_far ?_ GW143.out _) | exact HK.out)⟩, ⟨by repeat (first | (with_reducible first | exact HB.out | apply below_alloc | apply pw_below_drewN | apply below_drew1 | refine below_set ?_ (IsS98.ge HI0.out) | refine below_set ?_ GE138.out | refine below_set ?_ GE143.out) | exact HB.out)⟩⟩
       ·replace H := zO H; obtain ⟨t151, A26, H⟩ := H; have H' := Aside0.mk H; clear H; obtain ⟨HGz27, hgz27⟩ := HI0.out; have hcz27_0 := cellS98_0 HGz27; have hcz27_1 := cellS98_1 HGz27; have hcz27_2 := cellS98_2 HGz27; have hfz27_0 := blk_frozen HGz27 0; have hfz27_1 := blk_frozen HGz27 1; have hfz27_2 := blk_frozen HGz27 2; clear HGz27 hgz27; have hnb28 := NB143_138.out; have hnc28 := NB138_143.out; have hnb29 := NB143_0.out; have hnc29 := NB0_143.out; obtain ⟨hcz30_0, hcz30_1, hfz30_0, hfz30_1⟩ := zk2 BK143
        go_wp2_with (first | (go_at_call 72; (with_reducible refine (line_at.calls _ _ l1 t139 t151 _ (by first | (with_reducible exact hG) | exact GG.below hG (by repeat (first | (with_reducible first | exact HB.out | apply below_alloc | apply pw_below_drewN | apply below_drew1 | refine below_set ?_ (IsS98.ge HI0.out) | refine below_set ?_ GE138.out | refine below_set ?_ GE143.out) | exact HB.out))) ?side1 ?side2 A26.out).mono ?_); (case side1 => exact Kd.C_foot_now HR1.out (by repeat (first | (with_reducible first | exact HK.out | apply KeepBut.set_ | apply keep_drewN | apply keep_drew | apply keep_alloc | refine keep_far ?_ GW138.out _ | refine keep_far ?_ GW143.out _) | exact HK.out))); (case side2 => exact HC1.out); rintro e w31 ⟨rfl, hb⟩; replace BK138 := zb BK138 hb; replace BK143 := zb BK143 hb; replace HK := Aside0.mk (KeepBut.trans (by repeat (first | (with_reducible first | exact HK.out | apply KeepBut.set_ | apply keep_drewN | apply keep_drew | apply keep_alloc | refine keep_far ?_ GW138.out _ | refine keep_far ?_ GW143.out _) | exact HK.out)) (KeepBut.of_below hb g none) (.inl rfl)); replace HB := Aside0.mk (below_step (by repeat (first | (with_reducible first | exact HB.out | apply below_alloc | apply pw_below_drewN | apply below_drew1 | refine below_set ?_ (IsS98.ge HI0.out) | refine below_set ?_ GE138.out | refine below_set ?_ GE143.out) | exact HB.out)) hb); replace HI0 := Aside0.mk (IsS98.below (by repeat (first | (with_reducible first | exact HI0.out | apply IsS98.alloc | apply IsS98.drewN | apply IsS98.drew | apply IsS98.set_0 | apply IsS98.set_1 | apply IsS98.set_2 | refine IsS98.far ?_ NB0_138.out _ | refine IsS98.far ?_ NB0_143.out _) | exact HI0.out)) hb); clear hb))
        go_meet
        case rel => exact ⟨_, (decide (t151 ≥ 0)), zS, H', ⟨by have := HJ3.out; have := HJ16.out; first | omega | exact Nat.le_refl _⟩, ⟨blk_below BK138.out zX⟩, ⟨blk_below BK143.out zX⟩, ⟨by repeat (first | (with_reducible first | exact HI0.out | apply IsS98.alloc | apply IsS98.drewN | apply IsS98.drew | apply IsS98.set_0 | apply IsS98.set_1 | apply IsS98.set_2 | refine IsS98.far ?_ NB0_138.out _ | refine IsS98.far ?_ NB0_143.out _) | exact HI0.out)⟩, ⟨by repeat (first | (with_reducible first | exact HK.out | apply KeepBut.set_ | apply keep_drewN | apply keep_drew | apply keep_alloc | refine keep_far ?_ GW138.out _ | refine keep_far ?_ GW143.out _) | exact HK.out)⟩, ⟨by repeat (first | (with_reducible first | exact HB.out | apply below_alloc | apply pw_below_drewN | apply below_drew1 | refine below_set ?_ (IsS98.ge HI0.out) | refine below_set ?_ GE138.out | refine below_set ?_ GE143.out) | exact HB.out)⟩⟩
      ·(first | rw [c23b0] | (simp only [i64_w, i32_w]; rw [c23b0]) | skip)
       have H' := Aside0.mk H; clear H; obtain ⟨HGz32, hgz32⟩ := HI0.out; have hcz32_0 := cellS98_0 HGz32; have hcz32_1 := cellS98_1 HGz32; have hcz32_2 := cellS98_2 HGz32; have hfz32_0 := blk_frozen HGz32 0; have hfz32_1 := blk_frozen HGz32 1; have hfz32_2 := blk_frozen HGz32 2; clear HGz32 hgz32; go_wp2
       go_meet
       case rel => exact ⟨_, (false), zS, H', ⟨by have := HJ3.out; have := HJ16.out; first | omega | exact Nat.le_refl _⟩, ⟨blk_below BK138.out zX⟩, ⟨blk_below BK143.out zX⟩, ⟨by repeat (first | (with_reducible first | exact HI0.out | apply IsS98.alloc | apply IsS98.drewN | apply IsS98.drew | apply IsS98.set_0 | apply IsS98.set_1 | apply IsS98.set_2 | refine IsS98.far ?_ NB0_138.out _ | refine IsS98.far ?_ NB0_143.out _) | exact HI0.out)⟩, ⟨by repeat (first | (with_reducible first | exact HK.out | apply KeepBut.set_ | apply keep_drewN | apply keep_drew | apply keep_alloc | refine keep_far ?_ GW138.out _ | refine keep_far ?_ GW143.out _) | exact HK.out)⟩, ⟨by repeat (first | (with_reducible first | exact HB.out | apply below_alloc | apply pw_below_drewN | apply below_drew1 | refine below_set ?_ (IsS98.ge HI0.out) | refine below_set ?_ GE138.out | refine below_set ?_ GE143.out) | exact HB.out)⟩⟩
     case rest =>
      clear HC22; obtain ⟨kq, x48_21, rfl, HA, HJ21, BK138, BK143, HI0, HK, HB⟩ := hcut
      cases kq with
      | zero => exact absurd HA.out (by simp [line_reader_param.j2])
      | succ kj21 =>
       have H := HA.out; clear HA; simp only [line_reader_param.j2] at H; have HC33 := Aside0.mk H; clear H
       go_upto_if 48 with (fail)
       go_cut [] (fun wc => ∃ (kq : Nat) (x1000_32 : ByteArray) (x1001_32 : Int) (x1002_32 : Int), Aside0 (line_reader_param.j3 kq s0_1 x1000_32 x1001_32 x1002_32 t139 = some (r1, r2, r3, r4, r5)) ∧ Aside0 (kq ≤ kj21) ∧ Aside0 (wc.heap[gb138]? = some (.cells #[.string (⟨#[]⟩ : ByteArray), (.slice none 0 0)] 77 (0, 0))) ∧ Aside0 (wc.heap[gb143]? = some (.cells #[.string t139, (.slice none 0 0)] 77 (0, 0))) ∧ Aside0 (IsS98 w0 wc g x1000_32 x1001_32 x1002_32) ∧ Aside0 (KeepBut w wc g none) ∧ Aside0 (Below w0.heap.size w0 wc))
       case first =>
        have H := HC33.out; clear HC33; replace H := zIb H; rcases H with ⟨rfl, H⟩ | ⟨rfl, H⟩
        ·replace H := Option.bind_eq_some_iff.mp H; obtain ⟨⟨t152, t153, t154⟩, A350, H⟩ := H; replace H : (line_reader_param.j3 kj21 s0_1 t152 t153 t154 t139) = some (r1, r2, r3, r4, r5) := H; have A35 := Aside0.mk A350; clear A350; have H' := Aside0.mk H; clear H
         go_wp2_with (first | ((with_reducible refine gate_callee (f := 54) rfl ?_); refine goesL_ (some 51) rfl rfl Tryz.func54 (by kernel_rfl) rfl #[.pointer (some ⟨g, 0, none⟩), .int .i64 9, .int .i64 s0_1] rfl zA ?_; (with_reducible refine (line_reader_wrong.calls g x1000_16 x1001_16 x1002_16 9 s0_1 t152 t153 t154 w0 _ (by first | (with_reducible exact hG) | exact GG.below hG (by repeat (first | (with_reducible first | exact HB.out | apply below_alloc | apply pw_below_drewN | apply below_drew1 | refine below_set ?_ (IsS98.ge HI0.out) | refine below_set ?_ GE138.out | refine below_set ?_ GE143.out) | exact HB.out))) ?side1 ?side2 A35.out).mono ?_); (case side1 => repeat (first | (with_reducible first | exact HI0.out | apply IsS98.alloc | apply IsS98.drewN | apply IsS98.drew | apply IsS98.set_0 | apply IsS98.set_1 | apply IsS98.set_2 | refine IsS98.far ?_ NB0_138.out _ | refine IsS98.far ?_ NB0_143.out _) | exact HI0.out)); (case side2 => repeat (first | (with_reducible first | exact HB.out | apply below_alloc | apply pw_below_drewN | apply below_drew1 | refine below_set ?_ (IsS98.ge HI0.out) | refine below_set ?_ GE138.out | refine below_set ?_ GE143.out) | exact HB.out)); rintro e w36 ⟨rfl, hi, hb, hk⟩; refine ⟨_, rfl, ?_⟩; replace BK138 := Aside0.mk (KeepBut.blk hk (g' := gb138) (o := .cells #[.string (⟨#[]⟩ : ByteArray), .slice none 0 0] 77 (0, 0)) (blk_below BK138.out zX) NB138_0.out (by simp)); replace BK143 := Aside0.mk (KeepBut.blk hk (g' := gb143) (o := .cells #[.string t139, .slice none 0 0] 77 (0, 0)) (blk_below BK143.out zX) NB143_0.out (by simp)); replace HK := Aside0.mk (KeepBut.trans (by repeat (first | (with_reducible first | exact HK.out | apply KeepBut.set_ | apply keep_drewN | apply keep_drew | apply keep_alloc | refine keep_far ?_ GW138.out _ | refine keep_far ?_ GW143.out _) | exact HK.out)) hk (.inl rfl)); replace HB := Aside0.mk (hb); replace HI0 := Aside0.mk (hi); clear hb))
         go_meet
         case rel => exact ⟨_, (t152), (t153), (t154), H', ⟨by have := HJ3.out; have := HJ16.out; have := HJ21.out; first | omega | exact Nat.le_refl _⟩, ⟨blk_below BK138.out zX⟩, ⟨blk_below BK143.out zX⟩, ⟨by repeat (first | (with_reducible first | exact HI0.out | apply IsS98.alloc | apply IsS98.drewN | apply IsS98.drew | apply IsS98.set_0 | apply IsS98.set_1 | apply IsS98.set_2 | refine IsS98.far ?_ NB0_138.out _ | refine IsS98.far ?_ NB0_143.out _) | exact HI0.out)⟩, ⟨by repeat (first | (with_reducible first | exact HK.out | apply KeepBut.set_ | apply keep_drewN | apply keep_drew | apply keep_alloc | refine keep_far ?_ GW138.out _ | refine keep_far ?_ GW143.out _) | exact HK.out)⟩, ⟨by repeat (first | (with_reducible first | exact HB.out | apply below_alloc | apply pw_below_drewN | apply below_drew1 | refine below_set ?_ (IsS98.ge HI0.out) | refine below_set ?_ GE138.out | refine below_set ?_ GE143.out) | exact HB.out)⟩⟩
        ·have H' := Aside0.mk H; clear H; go_wp2
         go_meet
         case rel => exact ⟨_, (x1000_16), (x1001_16), (x1002_16), H', ⟨by have := HJ3.out; have := HJ16.out; have := HJ21.out; first | omega | exact Nat.le_refl _⟩, ⟨blk_below BK138.out zX⟩, ⟨blk_below BK143.out zX⟩, ⟨by repeat (first | (with_reducible first | exact HI0.out | apply IsS98.alloc | apply IsS98.drewN | apply IsS98.drew | apply IsS98.set_0 | apply IsS98.set_1 | apply IsS98.set_2 | refine IsS98.far ?_ NB0_138.out _ | refine IsS98.far ?_ NB0_143.out _) | exact HI0.out)⟩, ⟨by repeat (first | (with_reducible first | exact HK.out | apply KeepBut.set_ | apply keep_drewN | apply keep_drew | apply keep_alloc | refine keep_far ?_ GW138.out _ | refine keep_far ?_ GW143.out _) | exact HK.out)⟩, ⟨by repeat (first | (with_reducible first | exact HB.out | apply below_alloc | apply pw_below_drewN | apply below_drew1 | refine below_set ?_ (IsS98.ge HI0.out) | refine below_set ?_ GE138.out | refine below_set ?_ GE143.out) | exact HB.out)⟩⟩
       case rest =>
        clear HC33; obtain ⟨kq, x1000_32, x1001_32, x1002_32, HA, HJ32, BK138, BK143, HI0, HK, HB⟩ := hcut
        cases kq with
        | zero => exact absurd HA.out (by simp [line_reader_param.j3])
        | succ kj32 =>
         have H := HA.out; clear HA; simp only [line_reader_param.j3] at H; have H' := Aside0.mk H; clear H; go_wp2
         go_loopg [7] kj32 (fun kq v7 w' => ∃ (x7_5 : Bool) (x1000_5 : ByteArray) (x1001_5 : Int) (x1002_5 : Int) (x144001_5 : List ByteArray) (u144001 : Value), v7 = .bool x7_5 ∧ Aside0 (line_reader_param.l0 kq s0_1 x7_5 x1000_5 x1001_5 x1002_5 t139 x144001_5 = some (r1, r2, r3, r4, r5)) ∧ Aside0 (kq ≤ kj32) ∧ Aside0 (Kd.R Kd.string 9 w' w.heap.size (fun _ => True) u144001 x144001_5) ∧ Aside0 (w'.heap[gb138]? = some (.cells #[.string (⟨#[]⟩ : ByteArray), (.slice none 0 0)] 77 (0, 0))) ∧ Aside0 (w'.heap[gb143]? = some (.cells #[.string t139, u144001] 77 (0, 0))) ∧ Aside0 (IsS98 w0 w' g x1000_5 x1001_5 x1002_5) ∧ Aside0 (KeepBut w w' g none) ∧ Aside0 (Below w0.heap.size w0 w'))
         case atStart => exact ⟨(true), (x1000_32), (x1001_32), (x1002_32), (([] : List ByteArray)), (.slice none 0 0), zS, H', ⟨Nat.le_refl _⟩, ⟨by first | exact Kd.R_nil _ _ _ _ _ | exact Kd.N_nil _ _ _ _ _ | exact Kd.V_nil _ _ _ _ _ | exact Kd.Q_nil _ _ _ _ _ | exact Kd.S_nil _ _ _ _ _⟩, ⟨blk_below BK138.out zX⟩, ⟨blk_below BK143.out zX⟩, ⟨by repeat (first | (with_reducible first | exact HI0.out | apply IsS98.alloc | apply IsS98.drewN | apply IsS98.drew | apply IsS98.set_0 | apply IsS98.set_1 | apply IsS98.set_2 | refine IsS98.far ?_ NB0_138.out _ | refine IsS98.far ?_ NB0_143.out _) | exact HI0.out)⟩, ⟨by repeat (first | (with_reducible first | exact HK.out | apply KeepBut.set_ | apply keep_drewN | apply keep_drew | apply keep_alloc | refine keep_far ?_ GW138.out _ | refine keep_far ?_ GW143.out _) | exact HK.out)⟩, ⟨by repeat (first | (with_reducible first | exact HB.out | apply below_alloc | apply pw_below_drewN | apply below_drew1 | refine below_set ?_ (IsS98.ge HI0.out) | refine below_set ?_ GE138.out | refine below_set ?_ GE143.out) | exact HB.out)⟩⟩
         case round =>
          clear H'; obtain ⟨x7_5, x1000_5, x1001_5, x1002_5, x144001_5, u144001, rfl, HA, HK5, HO_144001, BK138, BK143, HI0, HK, HB⟩ := hrel
          cases gk with
          | zero => exact absurd HA.out (by simp [line_reader_param.l0])
          | succ k5 =>
           have H := HA.out; clear HA; simp only [line_reader_param.l0] at H; have HC37 := Aside0.mk H; clear H
           go_upto_region 8 with (fail)
           go_cut [59] (fun v59 wc => ∃ (kq : Nat) (x59_36 : Bool), v59 = .bool x59_36 ∧ Aside0 (line_reader_param.j5 kq s0_1 x59_36 x1000_5 x1001_5 x1002_5 t139 x144001_5 = some (r1, r2, r3, r4, r5)) ∧ Aside0 (kq ≤ k5) ∧ Aside0 (Kd.R Kd.string 9 wc w.heap.size (fun _ => True) u144001 x144001_5) ∧ Aside0 (wc.heap[gb138]? = some (.cells #[.string (⟨#[]⟩ : ByteArray), (.slice none 0 0)] 77 (0, 0))) ∧ Aside0 (wc.heap[gb143]? = some (.cells #[.string t139, u144001] 77 (0, 0))) ∧ Aside0 (IsS98 w0 wc g x1000_5 x1001_5 x1002_5) ∧ Aside0 (KeepBut w wc g none) ∧ Aside0 (Below w0.heap.size w0 wc))
           case first =>
            have H := HC37.out; clear HC37; replace H := zIb H; rcases H with ⟨rfl, H⟩ | ⟨rfl, H⟩
            ·have H' := Aside0.mk H; clear H; obtain ⟨HGz39, hgz39⟩ := HI0.out; have hcz39_0 := cellS98_0 HGz39; have hcz39_1 := cellS98_1 HGz39; have hcz39_2 := cellS98_2 HGz39; have hfz39_0 := blk_frozen HGz39 0; have hfz39_1 := blk_frozen HGz39 1; have hfz39_2 := blk_frozen HGz39 2; clear HGz39 hgz39; go_wp2
             go_meet
             case rel => exact ⟨_, ((x1002_5 == 0)), zS, H', ⟨by have := HJ3.out; have := HJ16.out; have := HJ21.out; have := HJ32.out; have := HK5.out; first | omega | exact Nat.le_refl _⟩, ⟨Kd.R_below HO_144001.out zX⟩, ⟨blk_below BK138.out zX⟩, ⟨blk_below BK143.out zX⟩, ⟨by repeat (first | (with_reducible first | exact HI0.out | apply IsS98.alloc | apply IsS98.drewN | apply IsS98.drew | apply IsS98.set_0 | apply IsS98.set_1 | apply IsS98.set_2 | refine IsS98.far ?_ NB0_138.out _ | refine IsS98.far ?_ NB0_143.out _) | exact HI0.out)⟩, ⟨by repeat (first | (with_reducible first | exact HK.out | apply KeepBut.set_ | apply keep_drewN | apply keep_drew | apply keep_alloc | refine keep_far ?_ GW138.out _ | refine keep_far ?_ GW143.out _) | exact HK.out)⟩, ⟨by repeat (first | (with_reducible first | exact HB.out | apply below_alloc | apply pw_below_drewN | apply below_drew1 | refine below_set ?_ (IsS98.ge HI0.out) | refine below_set ?_ GE138.out | refine below_set ?_ GE143.out) | exact HB.out)⟩⟩
            ·have H' := Aside0.mk H; clear H; go_wp2
             go_meet
             case rel => exact ⟨_, (false), zS, H', ⟨by have := HJ3.out; have := HJ16.out; have := HJ21.out; have := HJ32.out; have := HK5.out; first | omega | exact Nat.le_refl _⟩, ⟨Kd.R_below HO_144001.out zX⟩, ⟨blk_below BK138.out zX⟩, ⟨blk_below BK143.out zX⟩, ⟨by repeat (first | (with_reducible first | exact HI0.out | apply IsS98.alloc | apply IsS98.drewN | apply IsS98.drew | apply IsS98.set_0 | apply IsS98.set_1 | apply IsS98.set_2 | refine IsS98.far ?_ NB0_138.out _ | refine IsS98.far ?_ NB0_143.out _) | exact HI0.out)⟩, ⟨by repeat (first | (with_reducible first | exact HK.out | apply KeepBut.set_ | apply keep_drewN | apply keep_drew | apply keep_alloc | refine keep_far ?_ GW138.out _ | refine keep_far ?_ GW143.out _) | exact HK.out)⟩, ⟨by repeat (first | (with_reducible first | exact HB.out | apply below_alloc | apply pw_below_drewN | apply below_drew1 | refine below_set ?_ (IsS98.ge HI0.out) | refine below_set ?_ GE138.out | refine below_set ?_ GE143.out) | exact HB.out)⟩⟩
           case rest =>
            clear HC37; obtain ⟨kq, x59_36, rfl, HA, HJ36, HO_144001, BK138, BK143, HI0, HK, HB⟩ := hcut
            cases kq with
            | zero => exact absurd HA.out (by simp [line_reader_param.j5])
            | succ kj36 =>
             have H := HA.out; clear HA; simp only [line_reader_param.j5] at H; replace H := zIb H; rcases H with ⟨rfl, H⟩ | ⟨rfl, H⟩
             ·replace H := zIe H; rcases H with ⟨-, c41b0, c41b1, H⟩ | ⟨c41, c41b0, c41b1, H⟩
              ·replace H := Option.bind_eq_some_iff.mp H; obtain ⟨⟨t155, t156, t157⟩, A420, H⟩ := H; replace H : (some (t139, x144001_5, t155, t156, t157)) = some (r1, r2, r3, r4, r5) := H; have A42 := Aside0.mk A420; clear A420; simp only [Option.some.injEq, Prod.mk.injEq] at H; obtain ⟨rfl, rfl, rfl, rfl, rfl⟩ := H; have hnb43 := NB143_138.out; have hnc43 := NB138_143.out; have hnb44 := NB143_0.out; have hnc44 := NB0_143.out; obtain ⟨hcz45_0, hcz45_1, hfz45_0, hfz45_1⟩ := zk2 BK143; obtain ⟨Ao46, co46, eo46⟩ := Kd.R_slice HO_144001.out; subst eo46
               go_wp2_with (first | ((with_reducible refine gate_callee (f := 54) rfl ?_); refine goesL_ (some 69) rfl rfl Tryz.func54 (by kernel_rfl) rfl #[.pointer (some ⟨g, 0, none⟩), .int .i64 9, .int .i64 s0_1] rfl zA ?_; (with_reducible refine (line_reader_wrong.calls g x1000_5 x1001_5 x1002_5 9 s0_1 t155 t156 t157 w0 _ (by first | (with_reducible exact hG) | exact GG.below hG (by repeat (first | (with_reducible first | exact HB.out | apply below_alloc | apply pw_below_drewN | apply below_drew1 | refine below_set ?_ (IsS98.ge HI0.out) | refine below_set ?_ GE138.out | refine below_set ?_ GE143.out) | exact HB.out))) ?side1 ?side2 A42.out).mono ?_); (case side1 => repeat (first | (with_reducible first | exact HI0.out | apply IsS98.alloc | apply IsS98.drewN | apply IsS98.drew | apply IsS98.set_0 | apply IsS98.set_1 | apply IsS98.set_2 | refine IsS98.far ?_ NB0_138.out _ | refine IsS98.far ?_ NB0_143.out _) | exact HI0.out)); (case side2 => repeat (first | (with_reducible first | exact HB.out | apply below_alloc | apply pw_below_drewN | apply below_drew1 | refine below_set ?_ (IsS98.ge HI0.out) | refine below_set ?_ GE138.out | refine below_set ?_ GE143.out) | exact HB.out)); rintro e w47 ⟨rfl, hi, hb, hk⟩; refine ⟨_, rfl, ?_⟩; replace HO_144001 := Aside0.mk (Kd.R_mono (Kd.R_keep (IsS98.apart (show IsS98 w0 _ g x1000_5 x1001_5 x1002_5 from by repeat (first | (with_reducible first | exact HI0.out | apply IsS98.alloc | apply IsS98.drewN | apply IsS98.drew | apply IsS98.set_0 | apply IsS98.set_1 | apply IsS98.set_2 | refine IsS98.far ?_ NB0_138.out _ | refine IsS98.far ?_ NB0_143.out _) | exact HI0.out)) (Kd.R_below HO_144001.out zX) (by decide)) hk (fun _ h => h.2)) (fun _ h => h.1)); replace BK138 := Aside0.mk (KeepBut.blk hk (g' := gb138) (o := .cells #[.string (⟨#[]⟩ : ByteArray), .slice none 0 0] 77 (0, 0)) (blk_below BK138.out zX) NB138_0.out (by simp)); replace BK143 := Aside0.mk (KeepBut.blk hk (g' := gb143) (o := .cells #[.string t139, .slice Ao46 x144001_5.length co46] 77 (0, 0)) (blk_below BK143.out zX) NB143_0.out (by simp)); replace HK := Aside0.mk (KeepBut.trans (by repeat (first | (with_reducible first | exact HK.out | apply KeepBut.set_ | apply keep_drewN | apply keep_drew | apply keep_alloc | refine keep_far ?_ GW138.out _ | refine keep_far ?_ GW143.out _) | exact HK.out)) hk (.inl rfl)); replace HB := Aside0.mk (hb); replace HI0 := Aside0.mk (hi); clear hb; obtain ⟨hcz48_0, hcz48_1, hfz48_0, hfz48_1⟩ := zk2 BK143; have hnb49 := NB138_0.out; have hnc49 := NB0_138.out; obtain ⟨hcz50_0, hcz50_1, hfz50_0, hfz50_1⟩ := zk2 BK138))
               refine bodyPost_ret (results_cell_row rfl _ _ gb138 77 #[.string t139, .slice Ao46 x144001_5.length co46] (0, 0) _ rfl (by (with_reducible repeat (first | refine blk_drewN ?_ _ | refine blk_drew ?_ | refine blk_alloc ?_ _)); refine blk_put (cs := #[.string t139, .slice none 0 0]) ?_ 1 _ rfl; (with_reducible repeat (first | refine blk_drewN ?_ _ | refine blk_drew ?_ | refine blk_alloc ?_ _)); refine blk_put (cs := #[.string (⟨#[]⟩ : ByteArray), .slice none 0 0]) ?_ 0 _ rfl; (with_reducible repeat (first | refine blk_drewN ?_ _ | refine blk_drew ?_ | refine blk_alloc ?_ _)); exact BK138.out) Tryz.underlying77 rfl (by kernel_rfl)) rfl ?_
               exact ⟨_, zE, by (with_reducible repeat (first | apply Kd.R_alloc | apply Kd.R_drewN | apply Kd.R_drew)); exact Kd.R_mono (Kd.R_far (p := ⟨gb138, 1, none⟩) (Kd.R_far (p := ⟨gb138, 0, none⟩) (Kd.R_types HO_144001.out BK138.out (by decide)) (fun _ hk => hk.2) (.string t139)) (fun _ hk => hk.2) (.slice Ao46 x144001_5.length co46)) (fun _ hk => trivial), by repeat (first | (with_reducible first | exact HI0.out | apply IsS98.alloc | apply IsS98.drewN | apply IsS98.drew | apply IsS98.set_0 | apply IsS98.set_1 | apply IsS98.set_2 | refine IsS98.far ?_ NB0_138.out _ | refine IsS98.far ?_ NB0_143.out _) | exact HI0.out), by repeat (first | (with_reducible first | exact HB.out | apply below_alloc | apply pw_below_drewN | apply below_drew1 | refine below_set ?_ (IsS98.ge HI0.out) | refine below_set ?_ GE138.out | refine below_set ?_ GE143.out) | exact HB.out), by repeat (first | (with_reducible first | exact HK.out | apply KeepBut.set_ | apply keep_drewN | apply keep_drew | apply keep_alloc | refine keep_far ?_ GW138.out _ | refine keep_far ?_ GW143.out _) | exact HK.out)⟩
              ·replace H := Option.bind_eq_some_iff.mp H; obtain ⟨⟨t158, t159, t160, t161⟩, A510, H⟩ := H; replace H : (if x144001_5.length < 8796093022208 then ((line_reader_peek.f t159 t160 t161).bind fun bt165 => (line_reader_param.l0 kj36 s0_1 (bt165.1 == 44) bt165.2.1 bt165.2.2.1 bt165.2.2.2 t139 (x144001_5 ++ [t158]))) else (none)) = some (r1, r2, r3, r4, r5) := H; have A51 := Aside0.mk A510; clear A510; replace H := zJ H; obtain ⟨c52, H⟩ := H; have LMc52 := Aside0.mk c52; clear c52; obtain ⟨y162, hy162⟩ : ∃ y_ : List ByteArray, y_ = (x144001_5 ++ [t158]) := ⟨_, rfl⟩
               replace H : ((line_reader_peek.f t159 t160 t161).bind fun bt165 => (line_reader_param.l0 kj36 s0_1 (bt165.1 == 44) bt165.2.1 bt165.2.2.1 bt165.2.2.2 t139 y162)) = some (r1, r2, r3, r4, r5) := by first | (rw [hy162]; with_reducible exact H) | (have H2_ := (Option.bind_some _ _).symm.trans H; rw [hy162]; with_reducible exact H2_) | (have H2_ := (Option.bind_some _ _).symm.trans H; with_reducible exact H2_) | with_reducible exact H | (rw [hy162]; exact H) | exact H
               have Ny162 := Aside0.mk hy162; clear hy162; replace H := Option.bind_eq_some_iff.mp H; obtain ⟨⟨t165, t166, t167, t168⟩, A530, H⟩ := H; replace H : (line_reader_param.l0 kj36 s0_1 (t165 == 44) t166 t167 t168 t139 y162) = some (r1, r2, r3, r4, r5) := H; have A53 := Aside0.mk A530; clear A530; have H' := Aside0.mk H; clear H; have hnb54 := NB143_138.out; have hnc54 := NB138_143.out; have hnb55 := NB143_0.out; have hnc55 := NB0_143.out; obtain ⟨hcz56_0, hcz56_1, hfz56_0, hfz56_1⟩ := zk2 BK143; obtain ⟨Ao57, co57, eo57⟩ := Kd.R_slice HO_144001.out; subst eo57; obtain ⟨HGz58, hgz58⟩ := HI0.out; have hcz58_0 := cellS98_0 HGz58
               have hcz58_1 := cellS98_1 HGz58; have hcz58_2 := cellS98_2 HGz58; have hfz58_0 := blk_frozen HGz58 0; have hfz58_1 := blk_frozen HGz58 1; have hfz58_2 := blk_frozen HGz58 2; clear HGz58 hgz58
               go_wp2_with (first | ((with_reducible refine gate_callee (f := 77) rfl ?_); refine goesL_ (some 78) rfl rfl Tryz.func77 (by kernel_rfl) rfl #[.pointer (some ⟨g, 0, none⟩)] rfl zA ?_; (with_reducible refine (line_reader_value.calls kj36 g x1000_5 (wrap64 (x1001_5 + 1)) x1002_5 t158 t159 t160 t161 w0 _ (by first | (with_reducible exact hG) | exact GG.below hG (by repeat (first | (with_reducible first | exact HB.out | apply below_alloc | apply pw_below_drewN | apply below_drew1 | refine below_set ?_ (IsS98.ge HI0.out) | refine below_set ?_ GE138.out | refine below_set ?_ GE143.out) | exact HB.out))) ?side1 ?side2 A51.out).mono ?_); (case side1 => repeat (first | (with_reducible first | exact HI0.out | apply IsS98.alloc | apply IsS98.drewN | apply IsS98.drew | apply IsS98.set_0 | apply IsS98.set_1 | apply IsS98.set_2 | refine IsS98.far ?_ NB0_138.out _ | refine IsS98.far ?_ NB0_143.out _) | exact HI0.out)); (case side2 => repeat (first | (with_reducible first | exact HB.out | apply below_alloc | apply pw_below_drewN | apply below_drew1 | refine below_set ?_ (IsS98.ge HI0.out) | refine below_set ?_ GE138.out | refine below_set ?_ GE143.out) | exact HB.out)); rintro e w59 ⟨rfl, hi, hb, hk⟩; refine ⟨_, rfl, ?_⟩; replace HO_144001 := Aside0.mk (Kd.R_mono (Kd.R_keep (IsS98.apart (show IsS98 w0 _ g x1000_5 (wrap64 (x1001_5 + 1)) x1002_5 from by repeat (first | (with_reducible first | exact HI0.out | apply IsS98.alloc | apply IsS98.drewN | apply IsS98.drew | apply IsS98.set_0 | apply IsS98.set_1 | apply IsS98.set_2 | refine IsS98.far ?_ NB0_138.out _ | refine IsS98.far ?_ NB0_143.out _) | exact HI0.out)) (by (with_reducible repeat (first | apply Kd.R_alloc | apply Kd.R_drewN | apply Kd.R_drew)); exact (Kd.R_mono (Kd.R_far (p := ⟨g, 1, none⟩) (IsS98.apart HI0.out HO_144001.out (by decide)) (fun _ hk => hk.2) (.int .i64 (wrap64 (x1001_5 + 1)))) (fun _ h_ => h_.1))) (by decide)) hk (fun _ h => h.2)) (fun _ h => h.1)); replace BK138 := Aside0.mk (KeepBut.blk hk (g' := gb138) (o := .cells #[.string (⟨#[]⟩ : ByteArray), .slice none 0 0] 77 (0, 0)) (by (with_reducible repeat (first | refine blk_drewN ?_ _ | refine blk_drew ?_ | refine blk_alloc ?_ _)); refine blk_far ?_ NB138_0.out _; (with_reducible repeat (first | refine blk_drewN ?_ _ | refine blk_drew ?_ | refine blk_alloc ?_ _)); exact BK138.out) NB138_0.out (by simp)); replace BK143 := Aside0.mk (KeepBut.blk hk (g' := gb143) (o := .cells #[.string t139, .slice Ao57 x144001_5.length co57] 77 (0, 0)) (by (with_reducible repeat (first | refine blk_drewN ?_ _ | refine blk_drew ?_ | refine blk_alloc ?_ _)); refine blk_far ?_ NB143_0.out _; (with_reducible repeat (first | refine blk_drewN ?_ _ | refine blk_drew ?_ | refine blk_alloc ?_ _)); exact BK143.out) NB143_0.out (by simp)); replace HK := Aside0.mk (KeepBut.trans (by repeat (first | (with_reducible first | exact HK.out | apply KeepBut.set_ | apply keep_drewN | apply keep_drew | apply keep_alloc | refine keep_far ?_ GW138.out _ | refine keep_far ?_ GW143.out _) | exact HK.out)) hk (.inl rfl)); replace HB := Aside0.mk (hb); replace HI0 := Aside0.mk (hi); clear hb; obtain ⟨hcz60_0, hcz60_1, hfz60_0, hfz60_1⟩ := zk2 BK143) | ((with_reducible refine gate_builtin (b := .append) (xs := #[.tmp 80, .tmp 82]) rfl ?_); (try (refine gate_guard (by rfl) ?_; dsimp only)); at_builtin; refine Kd.R_append Kd.string w.heap.size rfl (.tmp 80) (.tmp 82) 54 9 (.string ⟨#[]⟩) 16 rfl Tryz.underlying54 info9 rfl (by decide) (by omega) (.slice Ao57 x144001_5.length co57) x144001_5 t158 [.string t158] (fun _ => True) (fun _ => False) rfl rfl ?aP (fun _ hk => hk.elim) ?aF ?aO (Below.refl _ _) ?aS ?aL ?_; (case aP => exact rfl); (case aF => exact (fun _ _ => trivial)); (case aO => exact (Kd.R_below HO_144001.out zX)); (case aS => exact (keep_size (w := w) (g := g) (row := none) (by repeat (first | (with_reducible first | exact HK.out | apply KeepBut.set_ | apply keep_drewN | apply keep_drew | apply keep_alloc | refine keep_far ?_ GW138.out _ | refine keep_far ?_ GW143.out _) | exact HK.out)))); (case aL => have := LMc52.out; omega); intro v163 w61 ho hb hg hat; rw [← Ny162.out] at ho; have n0_ := Aside0.mk (blk_grown (g := gb138) (o := .cells #[.string (⟨#[]⟩ : ByteArray), .slice none 0 0] 77 (0, 0)) (blk_below BK138.out zX) hg (Kd.R_ne HO_144001.out BK138.out (by decide))); have n1_ := Aside0.mk (blk_grown (g := gb143) (o := .cells #[.string t139, .slice Ao57 x144001_5.length co57] 77 (0, 0)) (blk_below BK143.out zX) hg (Kd.R_ne HO_144001.out BK143.out (by decide))); have n2_ := Aside0.mk (IsS98.grown (by repeat (first | (with_reducible first | exact HI0.out | apply IsS98.alloc | apply IsS98.drewN | apply IsS98.drew | apply IsS98.set_0 | apply IsS98.set_1 | apply IsS98.set_2 | refine IsS98.far ?_ NB0_138.out _ | refine IsS98.far ?_ NB0_143.out _) | exact HI0.out)) hg (IsS98.own_ne HI0.out HO_144001.out (by decide))); have n3_ := Aside0.mk (below_weaken (by repeat (first | (with_reducible first | exact HB.out | apply below_alloc | apply pw_below_drewN | apply below_drew1 | refine below_set ?_ (IsS98.ge HI0.out) | refine below_set ?_ GE138.out | refine below_set ?_ GE143.out) | exact HB.out)) HL.out hb); have n4_ := Aside0.mk (KeepBut.trans (by repeat (first | (with_reducible first | exact HK.out | apply KeepBut.set_ | apply keep_drewN | apply keep_drew | apply keep_alloc | refine keep_far ?_ GW138.out _ | refine keep_far ?_ GW143.out _) | exact HK.out)) (KeepBut.of_grown hg g) (Kd.R_base2 HO_144001.out)); have n5_ := Aside0.mk (ho); clear BK138; clear BK143; clear HI0; clear HB; clear HK; clear HO_144001; have BK138 := n0_; have BK143 := n1_; have HI0 := n2_; have HB := n3_; have HK := n4_; have HO164 := n5_; clear n0_ n1_ n2_ n3_ n4_ n5_; clear ho hb hg hat; obtain ⟨Ao62, co62, eo62⟩ := Kd.R_slice HO164.out; subst eo62; obtain ⟨hcz63_0, hcz63_1, hfz63_0, hfz63_1⟩ := zk2 BK143) | ((with_reducible refine gate_callee (f := 52) rfl ?_); refine goesL_ (some 61) rfl rfl Tryz.func52 (by kernel_rfl) rfl #[.pointer (some ⟨g, 0, none⟩)] rfl zA ?_; (with_reducible refine (line_reader_peek.calls g t159 t160 t161 t165 t166 t167 t168 w0 _ (by first | (with_reducible exact hG) | exact GG.below hG (by repeat (first | (with_reducible first | exact HB.out | apply below_alloc | apply pw_below_drewN | apply below_drew1 | refine below_set ?_ (IsS98.ge HI0.out) | refine below_set ?_ GE138.out | refine below_set ?_ GE143.out) | exact HB.out))) ?side1 ?side2 A53.out).mono ?_); (case side1 => repeat (first | (with_reducible first | exact HI0.out | apply IsS98.alloc | apply IsS98.drewN | apply IsS98.drew | apply IsS98.set_0 | apply IsS98.set_1 | apply IsS98.set_2 | refine IsS98.far ?_ NB0_138.out _ | refine IsS98.far ?_ NB0_143.out _) | exact HI0.out)); (case side2 => repeat (first | (with_reducible first | exact HB.out | apply below_alloc | apply pw_below_drewN | apply below_drew1 | refine below_set ?_ (IsS98.ge HI0.out) | refine below_set ?_ GE138.out | refine below_set ?_ GE143.out) | exact HB.out)); rintro e w64 ⟨rfl, hi, hb, hk⟩; refine ⟨_, rfl, ?_⟩; replace BK138 := Aside0.mk (KeepBut.blk hk (g' := gb138) (o := .cells #[.string (⟨#[]⟩ : ByteArray), .slice none 0 0] 77 (0, 0)) (by (with_reducible repeat (first | refine blk_drewN ?_ _ | refine blk_drew ?_ | refine blk_alloc ?_ _)); refine blk_far ?_ NB138_143.out _; (with_reducible repeat (first | refine blk_drewN ?_ _ | refine blk_drew ?_ | refine blk_alloc ?_ _)); exact BK138.out) NB138_0.out (by simp)); replace HO164 := Aside0.mk (Kd.R_mono (Kd.R_keep (IsS98.apart (show IsS98 w0 _ g t159 t160 t161 from by repeat (first | (with_reducible first | exact HI0.out | apply IsS98.alloc | apply IsS98.drewN | apply IsS98.drew | apply IsS98.set_0 | apply IsS98.set_1 | apply IsS98.set_2 | refine IsS98.far ?_ NB0_138.out _ | refine IsS98.far ?_ NB0_143.out _) | exact HI0.out)) (by (with_reducible repeat (first | apply Kd.R_alloc | apply Kd.R_drewN | apply Kd.R_drew)); exact (Kd.R_mono (Kd.R_far (p := ⟨gb143, 1, none⟩) (Kd.R_types HO164.out BK143.out (by decide)) (fun _ hk => hk.2) (.slice Ao62 y162.length co62)) (fun _ h_ => h_.1))) (by decide)) hk (fun _ h => h.2)) (fun _ h => h.1)); replace BK143 := Aside0.mk (KeepBut.blk hk (g' := gb143) (o := .cells #[.string t139, .slice Ao62 y162.length co62] 77 (0, 0)) (by (with_reducible repeat (first | refine blk_drewN ?_ _ | refine blk_drew ?_ | refine blk_alloc ?_ _)); refine blk_put (cs := #[.string t139, .slice Ao57 x144001_5.length co57]) ?_ 1 _ rfl; (with_reducible repeat (first | refine blk_drewN ?_ _ | refine blk_drew ?_ | refine blk_alloc ?_ _)); exact BK143.out) NB143_0.out (by simp)); replace HK := Aside0.mk (KeepBut.trans (by repeat (first | (with_reducible first | exact HK.out | apply KeepBut.set_ | apply keep_drewN | apply keep_drew | apply keep_alloc | refine keep_far ?_ GW138.out _ | refine keep_far ?_ GW143.out _) | exact HK.out)) hk (.inl rfl)); replace HB := Aside0.mk (hb); replace HI0 := Aside0.mk (hi); clear hb))
               go_roundg kj36
               case measure => have := HJ3.out; have := HJ16.out; have := HJ21.out; have := HJ32.out; have := HK5.out; have := HJ36.out; omega
               case rel => exact ⟨((t165 == 44)), (t166), (t167), (t168), (y162), (.slice Ao62 y162.length co62), zS, H', ⟨by have := HJ3.out; have := HJ16.out; have := HJ21.out; have := HJ32.out; have := HK5.out; have := HJ36.out; omega⟩, ⟨Kd.R_below HO164.out zX⟩, ⟨blk_below BK138.out zX⟩, ⟨blk_below BK143.out zX⟩, ⟨by repeat (first | (with_reducible first | exact HI0.out | apply IsS98.alloc | apply IsS98.drewN | apply IsS98.drew | apply IsS98.set_0 | apply IsS98.set_1 | apply IsS98.set_2 | refine IsS98.far ?_ NB0_138.out _ | refine IsS98.far ?_ NB0_143.out _) | exact HI0.out)⟩, ⟨by repeat (first | (with_reducible first | exact HK.out | apply KeepBut.set_ | apply keep_drewN | apply keep_drew | apply keep_alloc | refine keep_far ?_ GW138.out _ | refine keep_far ?_ GW143.out _) | exact HK.out)⟩, ⟨by repeat (first | (with_reducible first | exact HB.out | apply below_alloc | apply pw_below_drewN | apply below_drew1 | refine below_set ?_ (IsS98.ge HI0.out) | refine below_set ?_ GE138.out | refine below_set ?_ GE143.out) | exact HB.out)⟩⟩
             ·simp only [Option.some.injEq, Prod.mk.injEq] at H; obtain ⟨rfl, rfl, rfl, rfl, rfl⟩ := H; have hnb65 := NB143_138.out; have hnc65 := NB138_143.out; have hnb66 := NB143_0.out; have hnc66 := NB0_143.out; obtain ⟨hcz67_0, hcz67_1, hfz67_0, hfz67_1⟩ := zk2 BK143; have hnb68 := NB138_0.out; have hnc68 := NB0_138.out; obtain ⟨hcz69_0, hcz69_1, hfz69_0, hfz69_1⟩ := zk2 BK138
              obtain ⟨Ao70, co70, eo70⟩ := Kd.R_slice HO_144001.out; subst eo70; go_wp2; refine bodyPost_ret (results_cell_row rfl _ _ gb138 77 #[.string t139, .slice Ao70 x144001_5.length co70] (0, 0) _ rfl (by (with_reducible repeat (first | refine blk_drewN ?_ _ | refine blk_drew ?_ | refine blk_alloc ?_ _)); refine blk_put (cs := #[.string t139, .slice none 0 0]) ?_ 1 _ rfl; (with_reducible repeat (first | refine blk_drewN ?_ _ | refine blk_drew ?_ | refine blk_alloc ?_ _)); refine blk_put (cs := #[.string (⟨#[]⟩ : ByteArray), .slice none 0 0]) ?_ 0 _ rfl; (with_reducible repeat (first | refine blk_drewN ?_ _ | refine blk_drew ?_ | refine blk_alloc ?_ _)); exact BK138.out) Tryz.underlying77 rfl (by kernel_rfl)) rfl ?_
              exact ⟨_, zE, by (with_reducible repeat (first | apply Kd.R_alloc | apply Kd.R_drewN | apply Kd.R_drew)); exact Kd.R_mono (Kd.R_far (p := ⟨gb138, 1, none⟩) (Kd.R_far (p := ⟨gb138, 0, none⟩) (Kd.R_types HO_144001.out BK138.out (by decide)) (fun _ hk => hk.2) (.string t139)) (fun _ hk => hk.2) (.slice Ao70 x144001_5.length co70)) (fun _ hk => trivial), by repeat (first | (with_reducible first | exact HI0.out | apply IsS98.alloc | apply IsS98.drewN | apply IsS98.drew | apply IsS98.set_0 | apply IsS98.set_1 | apply IsS98.set_2 | refine IsS98.far ?_ NB0_138.out _ | refine IsS98.far ?_ NB0_143.out _) | exact HI0.out), by repeat (first | (with_reducible first | exact HB.out | apply below_alloc | apply pw_below_drewN | apply below_drew1 | refine below_set ?_ (IsS98.ge HI0.out) | refine below_set ?_ GE138.out | refine below_set ?_ GE143.out) | exact HB.out), by repeat (first | (with_reducible first | exact HK.out | apply KeepBut.set_ | apply keep_drewN | apply keep_drew | apply keep_alloc | refine keep_far ?_ GW138.out _ | refine keep_far ?_ GW143.out _) | exact HK.out)⟩
end Go.Proofs.YtdojmdbaiddkgaaGreatDoor.Print
end
section
set_option linter.unusedVariables false
set_option linter.unusedSimpArgs false
namespace Go.Proofs.YtdojmdbaiddkgaaGreatDoor.Print
open Go.RowKit Go.Proofs.YtdojmdbaiddkgaaGreatDoorW.PrintWords Go.Proofs.YtdojmdbaiddkgaaGreatDoorW.PrintLast Go.Proofs.YtdojmdbaiddkgaaGreatDoorW.PrintMore
abbrev LineR := ByteArray × List S77 × ByteArray × Int × Int
def noLine (a e : Int) : LineR := (⟨#[]⟩, [], ⟨#[]⟩, a, e)
/-- The parameters: the list, the state's text, where it stands, what is wrong. -/
def line_Parse.l0 : Nat → ByteArray → Int → Int → List S77 → Option (List S77 × ByteArray × Int × Int)
  | 0, _, _, _, _ => none
  | k + 1, s, a, fl, l => (line_reader_peek.f s a fl).bind fun p =>
      if p.1 = 59 then (if l.length < 3000000000000 ∧ a < 4611686018427387904 then (line_reader_param.f k s (a + 1) fl l).bind fun q => line_Parse.l0 k q.2.2.1 q.2.2.2.1 q.2.2.2.2 (l ++ [⟨q.1, q.2.1⟩]) else none)
      else some (l, s, a, fl)
/-- What follows behind the parameters. -/
def line_Parse.g (k : Nat) (a0 nm : ByteArray) (l : List S77) (s : ByteArray) (a fl : Int) : Option LineR :=
  if fl = 0 then (line_reader_peek.f s a fl).bind fun p =>
    if p.1 = 58 then (if 0 ≤ a ∧ a < (a0.size : Int) then (escape_Clean.f k (a0.extract (a.toNat + 1) a0.size) false).bind fun z => if z = 0 then some (nm, l, a0.extract (a.toNat + 1) a0.size, 0, 0) else some (noLine (a + 1) 7) else none)
    else some (noLine a 5)
  else some (noLine a fl)
def line_Parse.f (k : Nat) (a0 : ByteArray) : Option LineR :=
  if a0.size > 2000 then some (noLine 0 4)
  else (utf8_ValidString.f a0).bind fun ok => if ok = true then (line_reader_name.f a0 0 0).bind fun n => (line_Parse.l0 k n.2.1 n.2.2.1 n.2.2.2 []).bind fun q => line_Parse.g k a0 n.1 q.1 q.2.1 q.2.2.1 q.2.2.2 else some (noLine 0 3)
def ParseP (w : World) (r : LineR) (e : Ending) (w' : World) : Prop := ∃ v1_ : Value, e = .returned (.tuple #[.agg #[.string r.1, v1_, .string r.2.2.1], .int .i64 r.2.2.2.1, .int .i64 r.2.2.2.2]) ∧ Kd.S k77 77 w' w.heap.size (fun _ => True) v1_ r.2.1 ∧ Below w.heap.size w w'
theorem pblk_cell {w : World} {g : Nat} {cs : Array Value} {t : TypeId} {fr : Nat × Nat} (h : w.heap[g]? = some (.cells cs t fr)) (j : Nat) : w.cell? ⟨g, j, none⟩ = cs[j]? := by simp [World.cell?, h]
theorem pblk_froz {w : World} {g : Nat} {cs : Array Value} {t : TypeId} (h : w.heap[g]? = some (.cells cs t (0, 0))) (j : Nat) : w.frozen? ⟨g, j, none⟩ = false := by simp [World.frozen?, h]
theorem blkA {w : World} {g : Nat} {x : Obj} (hx : w.heap[g]? = some x) (o : Obj) : (w.alloc o).heap[g]? = some x := by
  rw [Below.heap_alloc _ _ _ (Array.getElem?_eq_some_iff.1 hx).1]; exact hx
theorem parse_long (s : ByteArray) (w : World) (hs : s.size > 2000) : Calls Tryz.prog 28 #[.string s] w (ParseP w (noLine 0 4)) := by
  have d1 : decide ((s.size : Int) > 2000) = true := decide_eq_true (by omega)
  go_enter Tryz.func28, Tryz.ntmps28
  go_wp2
  refine bodyPost_ret (v := .tuple #[.agg #[.string ⟨#[]⟩, .slice none 0 0, .string ⟨#[]⟩], .int .i64 0, .int .i64 4]) (by simp [results, Tryz.results28, go_sem]) rfl ⟨.slice none 0 0, rfl, Kd.S_nil _ _ _ _ _, (Below.refl _ _).alloc (Nat.le_refl _) _⟩
theorem parse_bad (s : ByteArray) (w : World) (hs : ¬ s.size > 2000) (hG : GG w) (hv : utf8_ValidString.f s = some false) : Calls Tryz.prog 28 #[.string s] w (ParseP w (noLine 0 3)) := by
  have d1 : decide ((s.size : Int) > 2000) = false := decide_eq_false (by omega)
  have HV := Aside0.mk hv
  have hnot : ∀ (x : Bool) (w : World), (Op.unary .not (.bool x)).run Tryz.prog w = .ok (.bool (!x)) w := fun _ _ => rfl
  clear hv hs
  go_enter Tryz.func28, Tryz.ntmps28
  go_wp2_with fail
  go_at_call 50
  refine (utf8_ValidString.calls s false _ (hG.alloc _) HV.out).mono ?_
  rintro e w2 ⟨rfl, hB⟩
  have HB := Aside0.mk (((below_alloc (Below.refl w.heap.size w) _).trans (hB.mono (by simp))))
  have hblk := (hB.block w.heap.size (by simp)).trans (heap_alloc_new w _)
  obtain ⟨R0, hR0⟩ : ∃ R0, R0 = w.heap.size := ⟨_, rfl⟩
  rw [← hR0] at hblk ⊢
  have HR0 := Aside0.mk hR0
  have c0 := pblk_cell hblk 0
  have c1 := pblk_cell hblk 1
  have c2 := pblk_cell hblk 2
  have f0 := pblk_froz hblk 0
  have f1 := pblk_froz hblk 1
  have f2 := pblk_froz hblk 2
  clear hB hblk hR0
  go_wp2_with fail
  refine bodyPost_ret (v := .tuple #[.agg #[.string ⟨#[]⟩, .slice none 0 0, .string ⟨#[]⟩], .int .i64 0, .int .i64 3]) (by simp [results, Tryz.results28, go_sem, c0, c1, c2]) rfl ⟨.slice none 0 0, rfl, Kd.S_nil _ _ _ _ _, ?_⟩
  repeat (first | exact HB.out | refine Below.setCell ?_ (by have := HR0.out; show w.heap.size ≤ R0; omega) _)
/-- A block that was there stays under what changes a state alone. -/
theorem keepBlk {w w' : World} {g b : Nat} {o : Obj} (hk : KeepBut w w' g none) (h : w.heap[b]? = some o) (hne : b ≠ g) : w'.heap[b]? = some o := (hk.2 b (Array.getElem?_eq_some_iff.1 h).1 hne (by simp)).trans h
theorem peek_same {s : ByteArray} {a fl : Int} {p : Int × ByteArray × Int × Int} (h : line_reader_peek.f s a fl = some p) : p = (p.1, s, a, fl) := by
  unfold line_reader_peek.f at h
  split at h
  · split at h
    · obtain rfl := Option.some.inj h; rfl
    · split at h
      · split at h
        · obtain rfl := Option.some.inj h; rfl
        · cases h
      · cases h
  · obtain rfl := Option.some.inj h; rfl
theorem peek_in {s : ByteArray} {a fl c : Int} (h : line_reader_peek.f s a fl = some (c, s, a, fl)) (hc : c ≠ 0) : fl = 0 ∧ 0 ≤ a ∧ a < (s.size : Int) := by
  unfold line_reader_peek.f at h
  split at h
  · rename_i h0
    split at h
    · simp only [Option.some.injEq, Prod.mk.injEq] at h; exact absurd h.1.symm hc
    · split at h
      · exact ⟨h0, by assumption, by omega⟩
      · cases h
  · simp only [Option.some.injEq, Prod.mk.injEq] at h; exact absurd h.1.symm hc
/-- Where the reading of parameters stands. -/
structure PSt (w : World) (g L R0 : Nat) (nm vl : ByteArray) (l : List S77) (s1 : ByteArray) (a fl : Int) (v : Value) (wr : World) : Prop where
  st : IsS98 w wr g s1 a fl
  bel : Below w.heap.size w wr
  res : wr.heap[R0]? = some (.cells #[.string ⟨#[]⟩, .slice none 0 0, .string ⟨#[]⟩] 49 (0, 0))
  loc : wr.heap[L]? = some (.cells #[.string nm, v, .string vl] 49 (0, 0))
  row : Kd.S k77 77 wr w.heap.size (fun _ => True) v l
  hL : w.heap.size ≤ L
  hR : w.heap.size ≤ R0
  ne : L ≠ g ∧ R0 ≠ g ∧ R0 ≠ L
theorem typesB : ∀ q, q ∈ 77 :: k77.E → q ≠ 98 := by decide
theorem typesL : ∀ q, q ∈ 77 :: k77.E → q ≠ 49 := by decide
theorem PSt.set_at {w : World} {g L R0 : Nat} {nm vl : ByteArray} {l : List S77} {s1 : ByteArray} {a fl : Int} {v : Value} {wr : World} (h : PSt w g L R0 nm vl l s1 a fl v wr) (b : Int) : PSt w g L R0 nm vl l s1 b fl v (wr.setCell ⟨g, 1, none⟩ (.int .i64 b)) :=
  ⟨h.st.set_1 b, below_set h.bel h.st.ge, by rw [Below.heap_setCell _ _ _ _ (by show R0 ≠ g; exact h.ne.2.1)]; exact h.res, by rw [Below.heap_setCell _ _ _ _ (by show L ≠ g; exact h.ne.1)]; exact h.loc, Kd.S_set h.row h.st.1 typesB 1 _, h.hL, h.hR, h.ne⟩
theorem PSt.drewN {w : World} {g L R0 : Nat} {nm vl : ByteArray} {l : List S77} {s1 : ByteArray} {a fl : Int} {v : Value} {wr : World} (h : PSt w g L R0 nm vl l s1 a fl v wr) (m : Nat) : PSt w g L R0 nm vl l s1 a fl v (wr.drewN m) :=
  ⟨h.st.drewN m, pw_below_drewN h.bel m, h.res, h.loc, Kd.S_drewN h.row m, h.hL, h.hR, h.ne⟩
theorem PSt.keep {w : World} {g L R0 : Nat} {nm vl : ByteArray} {l : List S77} {s1 s2 : ByteArray} {a fl a2 fl2 : Int} {v : Value} {wr w2 : World} (h : PSt w g L R0 nm vl l s1 a fl v wr) (hI : IsS98 w w2 g s2 a2 fl2) (hB : Below w.heap.size w w2) (hK : KeepBut wr w2 g none) : PSt w g L R0 nm vl l s2 a2 fl2 v w2 :=
  ⟨hI, hB, keepBlk hK h.res h.ne.2.1, keepBlk hK h.loc h.ne.1, Kd.S_mono (Kd.S_keep (Kd.S_types h.row h.st.1 typesB) hK (fun _ hk => hk.2)) (fun _ _ => trivial), h.hL, h.hR, h.ne⟩
theorem PSt.foot {w : World} {g L R0 : Nat} {nm vl : ByteArray} {l : List S77} {s1 : ByteArray} {a fl : Int} {A : Option Addr} {c : Nat} {wr : World} (h : PSt w g L R0 nm vl l s1 a fl (.slice A l.length c) wr) : ∀ W', KeepBut wr W' g none → Kd.C k77 W' A l.length l :=
  Kd.C_foot_own (Kd.S_R (Kd.S_types h.row h.st.1 typesB)) (fun _ hk => hk.2)
theorem PSt.app {w : World} {g L R0 : Nat} {nm vl : ByteArray} {l : List S77} {s1 : ByteArray} {a fl : Int} {v : Value} {W w5 : World} (h : PSt w g L R0 nm vl l s1 a fl v W) (hK : KeepBut W w5 g none) {v1 : Value} {r1 : ByteArray} {r2 : List ByteArray} (hR : Kd.R Kd.string 9 w5 W.heap.size (fun _ => True) v1 r2) :
    k77.M w5 w.heap.size (fun k => W.heap.size ≤ k) ⟨r1, r2⟩ [.string r1, v1] ∧ (∀ k, W.heap.size ≤ k → True ∧ some k ≠ v.ownBlock) ∧ Kd.S k77 77 w5 w.heap.size (fun k => True ∧ ¬ W.heap.size ≤ k) v l := by
  refine ⟨?_, fun k hk => ⟨trivial, fun e => ?_⟩, ?_⟩
  · exact k77_mkM w5 w.heap.size _ ⟨r1, r2⟩ (Kd.R_lower (Kd.R_mono (Kd.R_bound hR) (fun k hk => hk.2.1)) h.bel.size)
  · have := Kd.S_lt h.row k e.symm; omega
  · have h1 : Kd.S k77 77 W w.heap.size (fun k => True ∧ ¬ W.heap.size ≤ k) v l := Kd.S_mono (Kd.S_bound h.row) (fun k hk => ⟨trivial, by have := hk.2.2.1; omega⟩)
    exact Kd.S_mono (Kd.S_keep (Kd.S_types h1 h.st.1 typesB) hK (fun _ hk => hk.2)) (fun _ hk => hk.1)
theorem PSt.appd {w : World} {g L R0 : Nat} {nm vl : ByteArray} {l : List S77} {s1 : ByteArray} {a fl : Int} {v v2 : Value} {w5 w6 : World} {p : S77} (h : PSt w g L R0 nm vl l s1 a fl v w5) (hS : Kd.S k77 77 w6 w.heap.size (fun _ => True) v2 (l ++ [p])) (hB : Below w.heap.size w w6) (hg : w5.grownBy w6 v.ownBlock) :
    PSt w g L R0 nm vl (l ++ [p]) s1 a fl v2 (w6.setCell ⟨L, 1, none⟩ v2) := by
  have hne := Kd.S_ne h.row h.st.1 (by decide : 77 ≠ 98)
  have hnL := Kd.S_ne h.row h.loc (by decide : 77 ≠ 49)
  have hnR := Kd.S_ne h.row h.res (by decide : 77 ≠ 49)
  have hL6 : w6.heap[L]? = some (.cells #[.string nm, v, .string vl] 49 (0, 0)) := (hg.block L (Array.getElem?_eq_some_iff.1 h.loc).1 hnL).trans h.loc
  have hR6 : w6.heap[R0]? = some (.cells #[.string ⟨#[]⟩, .slice none 0 0, .string ⟨#[]⟩] 49 (0, 0)) := (hg.block R0 (Array.getElem?_eq_some_iff.1 h.res).1 hnR).trans h.res
  refine ⟨(h.st.grown hg hne).far (Ne.symm h.ne.1) _, hB.setCell (p := ⟨L, 1, none⟩) h.hL _, ?_, ?_, Kd.S_set hS hL6 typesL 1 _, h.hL, h.hR, h.ne⟩
  · rw [Below.heap_setCell _ _ _ _ (by show R0 ≠ L; exact h.ne.2.2)]; exact hR6
  · have : (w6.setCell ⟨L, 1, none⟩ v2).heap[L]? = some (.cells (#[.string nm, v, .string vl].setIfInBounds 1 v2) 49 (0, 0)) := by
      simp [World.setCell, Array.getElem?_modify, hL6]
    rw [this]; rfl
theorem PSt.below {w : World} {g L R0 : Nat} {nm vl : ByteArray} {l : List S77} {s1 : ByteArray} {a fl : Int} {v : Value} {wr w2 : World} (h : PSt w g L R0 nm vl l s1 a fl v wr) (hb : Below wr.heap.size wr w2) : PSt w g L R0 nm vl l s1 a fl v w2 :=
  h.keep (h.st.below hb) (h.bel.trans (hb.mono h.bel.size)) (KeepBut.of_below hb g none)
theorem PSt.setVal {w : World} {g L R0 : Nat} {nm vl : ByteArray} {l : List S77} {s1 : ByteArray} {a fl : Int} {v : Value} {wr : World} (h : PSt w g L R0 nm vl l s1 a fl v wr) (u : ByteArray) : PSt w g L R0 nm u l s1 a fl v (wr.setCell ⟨L, 2, none⟩ (.string u)) := by
  refine ⟨h.st.far (Ne.symm h.ne.1) _, h.bel.setCell (p := ⟨L, 2, none⟩) h.hL _, ?_, ?_, Kd.S_set h.row h.loc typesL 2 _, h.hL, h.hR, h.ne⟩
  · rw [Below.heap_setCell _ _ _ _ (by show R0 ≠ L; exact h.ne.2.2)]; exact h.res
  · have : (wr.setCell ⟨L, 2, none⟩ (.string u)).heap[L]? = some (.cells (#[.string nm, v, .string vl].setIfInBounds 2 (.string u)) 49 (0, 0)) := by
      simp [World.setCell, Array.getElem?_modify, h.loc]
    rw [this]; rfl
set_option maxHeartbeats 8000000 in
set_option maxRecDepth 100000 in
theorem parse_walk (k : Nat) (s : ByteArray) (w : World) (hs : ¬ s.size > 2000) (hG : GG w) (hv : utf8_ValidString.f s = some true) (nm s1 : ByteArray) (a1 fl1 : Int) (hn : line_reader_name.f s 0 0 = some (nm, s1, a1, fl1))
    (q : List S77 × ByteArray × Int × Int) (hq : line_Parse.l0 k s1 a1 fl1 [] = some q) (r : LineR) (hr : line_Parse.g k s nm q.1 q.2.1 q.2.2.1 q.2.2.2 = some r) :
    Calls Tryz.prog 28 #[.string s] w (ParseP w r) := by
  have d1 : decide ((s.size : Int) > 2000) = false := decide_eq_false (by omega)
  have HV := Aside0.mk hv
  have HN := Aside0.mk hn
  have HQ := Aside0.mk hq
  have HRR := Aside0.mk hr
  have HGG := Aside0.mk hG
  have hnot : ∀ (x : Bool) (w : World), (Op.unary .not (.bool x)).run Tryz.prog w = .ok (.bool (!x)) w := fun _ _ => rfl
  clear hv hn hq hr hG
  go_enter Tryz.func28, Tryz.ntmps28
  go_wp2_with fail
  go_at_call 50
  refine (utf8_ValidString.calls s true _ (HGG.out.alloc _) HV.out).mono ?_
  rintro e w2 ⟨rfl, hB⟩
  have HB := Aside0.mk (((below_alloc (Below.refl w.heap.size w) _).trans (hB.mono (by simp))))
  have hblk := (hB.block w.heap.size (by simp)).trans (heap_alloc_new w _)
  obtain ⟨R0, hR0⟩ : ∃ R0, R0 = w.heap.size := ⟨_, rfl⟩
  rw [← hR0] at hblk ⊢
  have HR0 := Aside0.mk hR0
  have HRB := Aside0.mk hblk
  have hlt2 : R0 < w2.heap.size := (Array.getElem?_eq_some_iff.1 hblk).1
  clear hB hblk hR0
  go_wp2_with fail
  go_at_call 51
  obtain ⟨g, hg⟩ : ∃ g, g = w2.heap.size := ⟨_, rfl⟩
  have hI0 := IsS98.new w w2 s 0 0 HB.out
  have hB0 := HB.out.alloc HB.out.size (.cells #[.string s, .int .i64 0, .int .i64 0] 98)
  have hRB0 := blkA HRB.out (.cells #[.string s, .int .i64 0, .int .i64 0] 98)
  rw [← hg] at hI0 ⊢
  have HGs := Aside0.mk hg
  refine (line_reader_name.calls g s 0 0 nm s1 a1 fl1 w _ HGG.out hI0 hB0 HN.out).mono ?_
  rintro e w3 ⟨rfl, hI3, hB3, hK3⟩
  have HI3 := Aside0.mk hI3
  have HB3 := Aside0.mk hB3
  have HRB3 := Aside0.mk (keepBlk hK3 hRB0 (by omega))
  have hlt3 : g < w3.heap.size := hI3.lt
  clear hI0 hB0 hRB0 hI3 hB3 hK3 hg
  go_wp2_with fail
  obtain ⟨L, hL⟩ : ∃ L, L = w3.heap.size := ⟨_, rfl⟩
  have HP0 : Aside0 (PSt w g L R0 nm ⟨#[]⟩ [] s1 a1 fl1 (.slice none 0 0) (w3.alloc (.cells #[.string nm, .slice none 0 0, .string ⟨#[]⟩] 49))) := ⟨by
    have hsz := HB3.out.size
    refine ⟨HI3.out.alloc _, HB3.out.alloc hsz _, blkA HRB3.out _, by rw [hL]; exact heap_alloc_new _ _, Kd.S_nil _ _ _ _ _, by omega, by have := HR0.out; omega, by omega, by have := HGs.out; omega, by have := HGs.out; omega⟩⟩
  rw [← hL] at ⊢
  clear hL
  go_loopg [25] k (fun kk v25 wr => ∃ (l : List S77) (s2 : ByteArray) (a fl : Int) (v : Value), Aside0 (PSt w g L R0 nm ⟨#[]⟩ l s2 a fl v wr) ∧ Aside0 (line_Parse.l0 kk s2 a fl l = some q))
  case atStart => exact ⟨[], s1, a1, fl1, _, HP0, HQ⟩
  case round =>
    obtain ⟨l, s2, a, fl, v, HP, HQr⟩ := hrel
    clear HP0 HQ
    have hst := HP.out.st
    cases gk with
    | zero => exact absurd HQr.out (by simp [line_Parse.l0])
    | succ kk =>
    obtain ⟨p, hp, hqr⟩ := Option.bind_eq_some_iff.1 (show (line_reader_peek.f s2 a fl).bind _ = some q from HQr.out)
    have hps := peek_same hp
    obtain ⟨pk, rfl⟩ : ∃ pk, p = (pk, s2, a, fl) := ⟨p.1, hps⟩
    dsimp only at hqr
    clear hps
    have HPK := Aside0.mk hp
    clear hp HQr
    by_cases h59 : pk = 59
    · rw [if_pos h59] at hqr
      subst h59
      by_cases hgd : l.length < 3000000000000 ∧ a < 4611686018427387904
      · rw [if_pos hgd] at hqr
        obtain ⟨x, hx, hqr⟩ := Option.bind_eq_some_iff.1 hqr
        have HX := Aside0.mk hx
        have HQ2 := Aside0.mk hqr
        obtain ⟨hgl, hga⟩ := hgd
        have hgl2 := Aside0.mk hgl
        have ha0 : 0 ≤ a := (peek_in HPK.out (by decide)).2.1
        clear hx hqr hgl hst
        go_wp2_with fail
        go_at_call 52
        refine (line_reader_peek.calls g s2 a fl 59 s2 a fl w _ HGG.out HP.out.st HP.out.bel HPK.out).mono ?_
        rintro e w4 ⟨rfl, hI4, hB4, hK4⟩
        have HP4 := Aside0.mk (HP.out.keep hI4 hB4 hK4)
        have hcz1 := cellS98_1 hI4.1
        have hfz1 := blk_frozen hI4.1 1
        clear hI4 hB4 hK4
        go_wp2_with fail
        have HPW := Aside0.mk (HP4.out.set_at (a + 1))
        obtain ⟨W, hW⟩ : ∃ W, W = w4.setCell ⟨g, 1, none⟩ (.int .i64 (a + 1)) := ⟨_, rfl⟩
        rw [← hW] at HPW ⊢
        clear hW hcz1 hfz1
        obtain ⟨A, c, rfl, hcl, hC⟩ := Kd.S_reads HPW.out.row
        have hLc : W.cell? ⟨L, 1, none⟩ = some (.slice A l.length c) := by rw [pblk_cell HPW.out.loc]; rfl
        have hLl : L < W.heap.size := (Array.getElem?_eq_some_iff.1 HPW.out.loc).1
        have HCL := Aside0.mk hcl
        clear hcl hC
        go_region_law (first | (refine Kd.S_append_step k77 (w0 := w) (W := w5) w.heap.size (by rfl) (.tmp 34) (.tmp 39) 47 77 (.agg #[.string ⟨#[]⟩, .slice none 0 0]) 40 (by rfl) Tryz.underlying47 info77 (by rfl) (by decide) (by decide) (.slice A l.length c) l ⟨x.1, x.2.1⟩ [.string x.1, v1] (fun _ => True) (fun k => W.heap.size ≤ k) (by rfl) (by rfl) HAp.out.1 HAp.out.2.1 (fun _ _ => trivial) HAp.out.2.2 H5.out.bel H5.out.bel.size (by have := hgl2.out; omega) ?_; intro v2 w6 hS6 hB6 hg6 hat6; obtain ⟨A6, c7, rfl, _, _⟩ := Kd.S_reads hS6; have hL6 := (hg6.block L (Array.getElem?_eq_some_iff.1 H5.out.loc).1 (Kd.S_ne H5.out.row H5.out.loc (by decide : 77 ≠ 49))).trans H5.out.loc; have c6 : w6.cell? ⟨L, 1, none⟩ = some (.slice A l.length c) := (pblk_cell hL6 1).trans rfl; have f6 := pblk_froz hL6 1; have H6 := Aside0.mk (H5.out.appd hS6 hB6 hg6); clear hL6 hS6 hB6 hg6 hat6) | (go_simp; go_at_call 53; refine (line_reader_param.calls kk g s2 (a + 1) fl A c l x.1 x.2.1 x.2.2.1 x.2.2.2.1 x.2.2.2.2 w _ HGG.out (HPW.out.drewN _).st (HPW.out.drewN _).bel (HPW.out.drewN _).foot HCL.out HX.out).mono ?_; rintro e w5 ⟨v1, rfl, hR1, hI5, hB5, hK5⟩; have H5 := Aside0.mk ((HPW.out.drewN _).keep hI5 hB5 hK5); have HAp := Aside0.mk (HPW.out.app (r1 := x.1) hK5 hR1); clear hI5 hB5 hK5 hR1; have c5 : w5.cell? ⟨L, 1, none⟩ = some (.slice A l.length c) := (pblk_cell H5.out.loc 1).trans rfl; have hl5 : L < w5.heap.size := (Array.getElem?_eq_some_iff.1 H5.out.loc).1))
        all_goals
          go_wp2_with fail
          go_roundg kk
          case measure => omega
          case rel => exact ⟨l ++ [⟨x.1, x.2.1⟩], _, _, _, .slice A6 (l.length + 1) c7, ⟨by have h := H6.out; rw [List.length_append] at h; exact h⟩, HQ2⟩
      · rw [if_neg hgd] at hqr; cases hqr
    · rw [if_neg h59] at hqr
      obtain rfl := Option.some.inj hqr
      have h59b : (pk == 59) = false := beq_eq_false_iff_ne.2 h59
      clear hqr h59 hst
      go_wp2_with fail
      go_at_call 52
      refine (line_reader_peek.calls g s2 a fl pk s2 a fl w _ HGG.out HP.out.st HP.out.bel HPK.out).mono ?_
      rintro e w4 ⟨rfl, hI4, hB4, hK4⟩
      have HP4 := Aside0.mk (HP.out.keep hI4 hB4 hK4)
      have hcz1 := cellS98_1 hI4.1
      have hcz2 := cellS98_2 hI4.1
      have hfz1 := blk_frozen hI4.1 1
      clear hI4 hB4 hK4
      have hrr := HRR.out
      unfold line_Parse.g at hrr
      by_cases hf : fl = 0
      · subst hf
        rw [if_pos rfl] at hrr
        obtain ⟨p, hp, hrr⟩ := Option.bind_eq_some_iff.1 hrr
        obtain rfl : p = (pk, s2, a, 0) := Option.some.inj (hp.symm.trans HPK.out)
        clear hp
        dsimp only at hrr
        by_cases h58 : pk = 58
        · rw [if_pos h58] at hrr
          subst h58
          by_cases hgd : 0 ≤ a ∧ a < (s.size : Int)
          · rw [if_pos hgd] at hrr
            obtain ⟨z, hz, hrr⟩ := Option.bind_eq_some_iff.1 hrr
            obtain ⟨b, rfl⟩ : ∃ b : Nat, a = (b : Int) := ⟨a.toNat, by omega⟩
            rw [Int.toNat_natCast] at hz hrr
            have hbs : b < s.size := by omega
            have HZ := Aside0.mk hz
            have HRZ := Aside0.mk hrr
            have hs2 : s.size ≤ 2000 := by omega
            have hLc := pblk_cell HP4.out.loc 2
            clear hz hrr hgd
            go_wp2_with (go_at_call 52; refine (line_reader_peek.calls g s2 b 0 58 s2 b 0 w _ HGG.out HP4.out.st HP4.out.bel HPK.out).mono ?_; rintro e w5 ⟨rfl, hI5, hB5, hK5⟩; have HP5 := Aside0.mk (HP4.out.keep hI5 hB5 hK5); have k1 := cellS98_1 hI5.1; have k2 := cellS98_2 hI5.1; have kf := blk_frozen hI5.1 1; have l2 := pblk_cell HP5.out.loc 2; have lf := pblk_froz HP5.out.loc 2; have hLg := HP5.out.ne.1; clear hI5 hB5 hK5)
            have HP7 := Aside0.mk ((HP5.out.set_at ((b : Int) + 1)).setVal (s.extract (b + 1) s.size))
            obtain ⟨W7, hW7⟩ : ∃ W7, W7 = (w5.setCell ⟨g, 1, none⟩ (.int .i64 ((b : Int) + 1))).setCell ⟨L, 2, none⟩ (.string (s.extract (b + 1) s.size)) := ⟨_, rfl⟩
            rw [← hW7] at HP7 ⊢
            clear hW7 k1 k2 kf l2 lf
            go_at_call 55
            refine (escape_Clean.calls k _ false z W7 (HGG.out.below HP7.out.bel) HZ.out).mono ?_
            rintro e w8 ⟨rfl, hB8⟩
            have HP8 := Aside0.mk (HP7.out.below hB8)
            clear hB8
            have k1 := cellS98_1 HP8.out.st.1
            have k2 := cellS98_2 HP8.out.st.1
            have l0 := pblk_cell HP8.out.loc 0
            have l1 := pblk_cell HP8.out.loc 1
            have l2 := pblk_cell HP8.out.loc 2
            by_cases hz0 : z = 0
            · subst hz0
              rw [if_pos rfl] at HRZ
              obtain rfl := Option.some.inj HRZ.out
              obtain ⟨A, c, rfl, hcl, hC⟩ := Kd.S_reads HP8.out.row
              have r0 := pblk_cell HP8.out.res 0
              have r1 := pblk_cell HP8.out.res 1
              have r2 := pblk_cell HP8.out.res 2
              have z0 := pblk_froz HP8.out.res 0
              have z1 := pblk_froz HP8.out.res 1
              have z2 := pblk_froz HP8.out.res 2
              clear hcl hC
              go_wp2_with fail
              refine bodyPost_ret (v := .tuple #[.agg #[.string nm, .slice A l.length c, .string (s.extract (b + 1) s.size)], .int .i64 0, .int .i64 0]) (by simp [results, Tryz.results28, go_sem, r0, r1, r2]) rfl ⟨_, rfl, ?_, ?_⟩
              · have hrow := Kd.S_types HP8.out.row HP8.out.res typesL
                refine Kd.S_mono (ok := fun k => True ∧ k ≠ R0) ?_ (fun _ _ => trivial)
                repeat (first | exact hrow | refine Kd.S_far ?_ (fun _ hk => hk.2) _)
              · repeat (first | exact HP8.out.bel | refine Below.setCell ?_ (by exact HP8.out.hR) _)
            · rw [if_neg hz0] at HRZ
              obtain rfl := Option.some.inj HRZ.out
              have hz1 : (z != 0) = true := bne_iff_ne.2 hz0
              clear hz0
              go_wp2_with (go_at_call 54; refine (line_reader_wrong.calls g s2 (b + 1) 0 7 (b + 1) s2 (b + 1) 7 w _ HGG.out HP8.out.st HP8.out.bel rfl).mono ?_; rintro e w6 ⟨rfl, hI6, hB6, hK6⟩; have HPF := Aside0.mk (HP8.out.keep hI6 hB6 hK6); have m2 := cellS98_2 hI6.1; clear hI6 hB6 hK6)
              have fc1 := cellS98_1 HPF.out.st.1
              have fc2 := cellS98_2 HPF.out.st.1
              have r0 := pblk_cell HPF.out.res 0
              have r1 := pblk_cell HPF.out.res 1
              have r2 := pblk_cell HPF.out.res 2
              have z0 := pblk_froz HPF.out.res 0
              have z1 := pblk_froz HPF.out.res 1
              have z2 := pblk_froz HPF.out.res 2
              have hgl := HPF.out.st.lt
              have nRg := HPF.out.ne.2.1
              go_wp2_with fail
              go_region
              all_goals
                go_wp2_with fail
                refine bodyPost_ret (v := .tuple #[.agg #[.string ⟨#[]⟩, .slice none 0 0, .string ⟨#[]⟩], .int .i64 ((b : Int) + 1), .int .i64 (7)]) (by simp [results, Tryz.results28, go_sem, r0, r1, r2]) rfl ⟨.slice none 0 0, rfl, Kd.S_nil _ _ _ _ _, ?_⟩
                repeat (first | exact HPF.out.bel | exact below_drew HPF.out.bel | refine below_drew ?_ | refine Below.setCell ?_ (by exact HPF.out.hR) _)
          · rw [if_neg hgd] at hrr; cases hrr
        · rw [if_neg h58] at hrr
          obtain rfl := Option.some.inj hrr
          have h58b : (pk != 58) = true := bne_iff_ne.2 h58
          clear hrr h58
          go_wp2_with (first
            | (go_at_call 52; refine (line_reader_peek.calls g s2 a 0 pk s2 a 0 w _ HGG.out HP4.out.st HP4.out.bel HPK.out).mono ?_; rintro e w5 ⟨rfl, hI5, hB5, hK5⟩; have HP5 := Aside0.mk (HP4.out.keep hI5 hB5 hK5); have k1 := cellS98_1 hI5.1; have k2 := cellS98_2 hI5.1; clear hI5 hB5 hK5)
            | (go_at_call 54; refine (line_reader_wrong.calls g s2 a 0 5 a s2 a 5 w _ HGG.out HP5.out.st HP5.out.bel rfl).mono ?_; rintro e w6 ⟨rfl, hI6, hB6, hK6⟩; have HPF := Aside0.mk (HP5.out.keep hI6 hB6 hK6); have m2 := cellS98_2 hI6.1; clear hI6 hB6 hK6))
          have fc1 := cellS98_1 HPF.out.st.1
          have fc2 := cellS98_2 HPF.out.st.1
          have r0 := pblk_cell HPF.out.res 0
          have r1 := pblk_cell HPF.out.res 1
          have r2 := pblk_cell HPF.out.res 2
          have z0 := pblk_froz HPF.out.res 0
          have z1 := pblk_froz HPF.out.res 1
          have z2 := pblk_froz HPF.out.res 2
          have hgl := HPF.out.st.lt
          have nRg := HPF.out.ne.2.1
          go_wp2_with fail
          go_region
          all_goals
            go_wp2_with fail
            refine bodyPost_ret (v := .tuple #[.agg #[.string ⟨#[]⟩, .slice none 0 0, .string ⟨#[]⟩], .int .i64 (a), .int .i64 (5)]) (by simp [results, Tryz.results28, go_sem, r0, r1, r2]) rfl ⟨.slice none 0 0, rfl, Kd.S_nil _ _ _ _ _, ?_⟩
            repeat (first | exact HPF.out.bel | exact below_drew HPF.out.bel | refine below_drew ?_ | refine Below.setCell ?_ (by exact HPF.out.hR) _)
      · obtain rfl := Option.some.inj (show some (noLine a fl) = some r by rw [if_neg hf] at hrr; exact hrr)
        have hf1 : (fl == 0) = false := beq_eq_false_iff_ne.2 hf
        have hf2 : (fl != 0) = true := bne_iff_ne.2 hf
        have HPF := HP4
        clear hrr hf
        have fc1 := cellS98_1 HPF.out.st.1
        have fc2 := cellS98_2 HPF.out.st.1
        have r0 := pblk_cell HPF.out.res 0
        have r1 := pblk_cell HPF.out.res 1
        have r2 := pblk_cell HPF.out.res 2
        have z0 := pblk_froz HPF.out.res 0
        have z1 := pblk_froz HPF.out.res 1
        have z2 := pblk_froz HPF.out.res 2
        have hgl := HPF.out.st.lt
        have nRg := HPF.out.ne.2.1
        go_wp2_with fail
        go_region
        all_goals
          go_wp2_with fail
          refine bodyPost_ret (v := .tuple #[.agg #[.string ⟨#[]⟩, .slice none 0 0, .string ⟨#[]⟩], .int .i64 (a), .int .i64 (fl)]) (by simp [results, Tryz.results28, go_sem, r0, r1, r2]) rfl ⟨.slice none 0 0, rfl, Kd.S_nil _ _ _ _ _, ?_⟩
          repeat (first | exact HPF.out.bel | exact below_drew HPF.out.bel | refine below_drew ?_ | refine Below.setCell ?_ (by exact HPF.out.hR) _)
theorem line_Parse.calls (k : Nat) (a0 : ByteArray) (r1 : ByteArray) (r2 : List S77) (r3 : ByteArray) (r4 : Int) (r5 : Int) (w : World) (hG : GG w) (h : line_Parse.f k a0 = some (r1, r2, r3, r4, r5)) :
    Calls Tryz.prog 28 #[.string a0] w fun e w' => ∃ v1_ : Value, e = .returned (.tuple #[.agg #[.string r1, v1_, .string r3], .int .i64 r4, .int .i64 r5]) ∧ Kd.S k77 77 w' w.heap.size (fun _ => True) v1_ r2 ∧ Below w.heap.size w w' := by
  unfold line_Parse.f at h
  by_cases hs : a0.size > 2000
  · rw [if_pos hs] at h
    have e := Option.some.inj h
    have hp := parse_long a0 w hs
    rw [e] at hp
    exact hp
  · rw [if_neg hs] at h
    obtain ⟨ok, hok, h⟩ := Option.bind_eq_some_iff.1 h
    cases ok with
    | false =>
      have e := Option.some.inj (show some (noLine 0 3) = some (r1, r2, r3, r4, r5) from h)
      have hp := parse_bad a0 w hs hG hok
      rw [e] at hp
      exact hp
    | true =>
      rw [if_pos rfl] at h
      obtain ⟨n, hn, h⟩ := Option.bind_eq_some_iff.1 h
      obtain ⟨q, hq, h⟩ := Option.bind_eq_some_iff.1 h
      exact parse_walk k a0 w hs hG hok n.1 n.2.1 n.2.2.1 n.2.2.2 hn q hq _ h
theorem line_Parse.mono_l : ∀ k s a fl l, LeO (line_Parse.l0 k s a fl l) (line_Parse.l0 (k + 1) s a fl l)
  | 0, _, _, _, _ => fun r h => by simp [line_Parse.l0] at h
  | k + 1, s, a, fl, l => by
    unfold line_Parse.l0
    refine LeO.bind (LeO.refl _) (fun p => ?_)
    refine LeO.ite ?_ (LeO.refl _)
    refine LeO.ite ?_ (LeO.refl _)
    exact LeO.bind (line_reader_param.mono _ _ _ _ _) (fun _ => line_Parse.mono_l k _ _ _ _)
theorem line_Parse.mono : ∀ a0 k, LeO (line_Parse.f k a0) (line_Parse.f (k + 1) a0) := by
  intro a0 k
  unfold line_Parse.f
  refine LeO.ite (LeO.refl _) ?_
  refine LeO.bind (LeO.refl _) (fun ok => ?_)
  refine LeO.ite ?_ (LeO.refl _)
  refine LeO.bind (LeO.refl _) (fun n => ?_)
  refine LeO.bind (line_Parse.mono_l _ _ _ _ _) (fun q => ?_)
  unfold line_Parse.g
  refine LeO.ite ?_ (LeO.refl _)
  refine LeO.bind (LeO.refl _) (fun p => ?_)
  refine LeO.ite ?_ (LeO.refl _)
  refine LeO.ite ?_ (LeO.refl _)
  exact LeO.bind (escape_Clean.mono _ _ _) (fun _ => LeO.refl _)
end Go.Proofs.YtdojmdbaiddkgaaGreatDoor.Print
end
section
set_option linter.unusedVariables false
set_option linter.unusedSimpArgs false
namespace Go.Proofs.YtdojmdbaiddkgaaGreatDoor.Print
open Go.RowKit Go.Proofs.YtdojmdbaiddkgaaGreatDoorW.PrintWords Go.Proofs.YtdojmdbaiddkgaaGreatDoorW.PrintLast Go.Proofs.YtdojmdbaiddkgaaGreatDoorW.PrintMore
abbrev TreeR := ByteArray × List S49 × List S31 × Int × Int
def errT (i e : Int) : TreeR := (⟨#[]⟩, [], [], i, e)
def lastR (i : Nat) : RdS → TreeR
  | .dn t => (t.f0, t.f1, t.f2, 0, 0)
  | .op _ => errT ((i : Int) + 1) 5
def nextR (i : Nat) (x : Except Int RdS) (c : RdS → Option TreeR) : Option TreeR :=
  match x with
  | .error z => some (errT ((i : Int) + 1) z)
  | .ok s => c s
def tree_Parse.l0 (k : Nat) : List ByteArray → Nat → RdS → Option TreeR
  | [], i, s => some (lastR i s)
  | x :: r, i, s => (line_Parse.f k x).bind fun q =>
    if q.2.2.2.2 = 0 then (if 300 ≤ i then some (errT ((i : Int) + 1) 9) else (line_Great.f q.2.2.1).bind fun gr => (line_Name.f k gr).bind fun ok => nextR i (stepR s ⟨q.1, q.2.1, q.2.2.1⟩ gr ok) (tree_Parse.l0 k r (i + 1)))
    else some (errT ((i : Int) + 1) q.2.2.2.2)
def tree_Parse.f (k : Nat) (a0 : ByteArray) : Option TreeR :=
  (fold_Unfold.f k a0).bind fun u => if u.2.2 = 0 then (if u.1.length ≤ 1000000 then tree_Parse.l0 k u.1 0 (.op []) else none) else some (errT u.2.1 u.2.2)
theorem tree_Parse.mono_l (k : Nat) : ∀ (l : List ByteArray) (i : Nat) (s : RdS), LeO (tree_Parse.l0 k l i s) (tree_Parse.l0 (k + 1) l i s)
  | [], _, _ => LeO.refl _
  | x :: r, i, s => by
    simp only [tree_Parse.l0]
    refine LeO.bind (line_Parse.mono _ _) (fun q => ?_)
    refine LeO.ite ?_ (LeO.refl _)
    refine LeO.ite (LeO.refl _) ?_
    refine LeO.bind (LeO.refl _) (fun gr => ?_)
    refine LeO.bind (line_Name.mono _ _) (fun ok => ?_)
    unfold nextR
    cases stepR s ⟨q.1, q.2.1, q.2.2.1⟩ gr ok with
    | error z => exact LeO.refl _
    | ok s' => exact tree_Parse.mono_l k r (i + 1) s'
theorem tree_Parse.mono : ∀ a0 k, LeO (tree_Parse.f k a0) (tree_Parse.f (k + 1) a0) := by
  intro a0 k
  unfold tree_Parse.f
  refine LeO.bind (fold_Unfold.mono _ _) (fun u => ?_)
  refine LeO.ite ?_ (LeO.refl _)
  exact LeO.ite (tree_Parse.mono_l k _ _ _) (LeO.refl _)
def TParseP (w : World) (r : TreeR) (e : Ending) (w' : World) : Prop := ∃ v1_ v2_ : Value, e = .returned (.tuple #[.agg #[.string r.1, v1_, v2_], .int .i64 r.2.2.2.1, .int .i64 r.2.2.2.2]) ∧ Kd.R k49 49 w' w.heap.size (fun _ => True) v1_ r.2.1 ∧ Kd.R k31 31 w' w.heap.size (fun k_ => some k_ ≠ v1_.ownBlock) v2_ r.2.2.1 ∧ Below w.heap.size w w'
theorem stepR_code {s : RdS} {p : PLine} {gr : ByteArray} {ok : Bool} {z : Int} (h : stepR s p gr ok = .error z) : z = 5 ∨ z = 8 := by
  cases s with
  | dn t => simp only [stepR] at h; injection h with h; exact .inl h.symm
  | op l =>
    cases l with
    | nil =>
      simp only [stepR] at h
      split at h
      · split at h
        · cases h
        · injection h with h; exact .inl h.symm
      · injection h with h; exact .inl h.symm
    | cons t r =>
      simp only [stepR] at h
      split at h
      · split at h
        · split at h
          · injection h with h; exact .inr h.symm
          · cases h
        · injection h with h; exact .inl h.symm
      · split at h
        · split at h
          · split at h
            · cases h
            · injection h with h; exact .inl h.symm
          · injection h with h; exact .inl h.symm
        · split at h
          · cases h
          · injection h with h; exact .inl h.symm
theorem SmallR.step {m : Nat} {s s' : RdS} {p : PLine} {gr : ByteArray} {ok : Bool} (hs : SmallR m s) (h : stepR s p gr ok = .ok s') : SmallR (m + 1) s' := by
  cases s with
  | dn t => simp only [stepR] at h; cases h
  | op l =>
    cases l with
    | nil =>
      simp only [stepR] at h
      split at h
      · split at h
        · injection h with h; subst h
          exact ⟨by simp, fun t ht => by simp at ht; subst ht; simp⟩
        · cases h
      · cases h
    | cons t r =>
      have h4 : r.length + 1 ≤ 4 := hs.1
      have ht := hs.2 t (by simp)
      have hr : ∀ x ∈ r, x.f1.length ≤ m ∧ x.f2.length ≤ m := fun x hx => hs.2 x (by simp [hx])
      simp only [stepR] at h
      split at h
      · split at h
        · split at h
          · cases h
          · injection h with h; subst h
            refine ⟨by simp; omega, fun x hx => ?_⟩
            rcases List.mem_cons.1 hx with rfl | hx
            · simp
            rcases List.mem_cons.1 hx with rfl | hx
            · omega
            · have := hr x hx; omega
        · cases h
      · split at h
        · split at h
          · split at h
            · injection h with h; subst h
              cases r with
              | nil => exact trivial
              | cons y r' =>
                have hy := hr y (by simp)
                refine ⟨by simp at h4 ⊢; omega, fun x hx => ?_⟩
                rcases List.mem_cons.1 hx with rfl | hx
                · exact ⟨by show y.f1.length ≤ _; omega, by show (y.f2 ++ [t]).length ≤ _; rw [List.length_append, List.length_singleton]; omega⟩
                · have := hr x (by simp [hx]); omega
            · cases h
          · cases h
        · split at h
          · injection h with h; subst h
            refine ⟨by simpa using h4, fun x hx => ?_⟩
            rcases List.mem_cons.1 hx with rfl | hx
            · exact ⟨by show (t.f1 ++ [p]).length ≤ _; rw [List.length_append, List.length_singleton]; omega, by show t.f2.length ≤ _; omega⟩
            · have := hr x hx; omega
          · cases h
set_option maxHeartbeats 1000000 in
set_option maxRecDepth 100000 in
theorem treeParse_early (k : Nat) (s : ByteArray) (w : World) (hG : GG w) (l : List ByteArray) (n e : Int) (hU : fold_Unfold.f k s = some (l, n, e)) (he : e ≠ 0) : Calls Tryz.prog 15 #[.string s] w (TParseP w (errT n e)) := by
  have HG := Aside0.mk hG
  have HU := Aside0.mk hU
  have hen : (e == 0) = false := beq_eq_false_iff_ne.2 he
  clear hG hU
  go_enter Tryz.func15, Tryz.ntmps15
  go_wp2_with fail
  go_at_call 27
  refine (fold_Unfold.calls k s l n e _ (GG.below HG.out (by repeat (first | exact Below.refl _ _ | apply below_alloc | apply pw_below_drewN | apply below_drew1))) HU.out).mono ?_
  rintro e2 w2 ⟨v0, rfl, hR, hB⟩
  have hres := (hB.block w.heap.size (by simp)).trans (heap_alloc_new w _)
  have HB : Aside0 (Below w.heap.size w w2) := ⟨(below_alloc (Below.refl w.heap.size w) _).trans (hB.mono (by simp))⟩
  obtain ⟨R0, hR0⟩ : ∃ R0, R0 = w.heap.size := ⟨_, rfl⟩
  rw [← hR0] at hres ⊢
  have HR0 := Aside0.mk hR0
  have r0 := blk_cell hres 0
  have r1 := blk_cell hres 1
  have r2 := blk_cell hres 2
  have z0 := blk_frozen hres 0
  have z1 := blk_frozen hres 1
  have z2 := blk_frozen hres 2
  clear hR hB hres hR0
  go_wp2_with fail
  refine bodyPost_ret (v := .tuple #[.agg #[.string ⟨#[]⟩, .slice none 0 0, .slice none 0 0], .int .i64 n, .int .i64 e]) (by simp [results, Tryz.results15, go_sem, r0, r1, r2]) rfl ⟨_, _, rfl, Kd.R_nil _ _ _ _ _, Kd.R_nil _ _ _ _ _, ?_⟩
  have hw : w.heap.size ≤ R0 := Nat.le_of_eq HR0.out.symm
  repeat (first | with_reducible exact HB.out | with_reducible refine Below.setCell (p := ⟨R0, _, none⟩) ?_ hw _)
/-- Where the loop over the lines stands. -/
structure PG (k : Nat) (w2 : World) (g : Nat) (l : List ByteArray) (R : TreeR) (i : Nat) (st : RdS) (wr : World) : Prop where
  str : StR w2 g st wr
  sm : SmallR i st
  ev : tree_Parse.l0 k (l.drop i) i st = some R
theorem list_cell {w : World} {b : Nat} {l : List ByteArray} {A : Option Addr} {c : Nat} (h : Kd.R Kd.string 9 w b (fun _ => True) (.slice A l.length c) l) (i : Nat) (hi : i < l.length) : ∃ bl, A = some ⟨bl, 0, none⟩ ∧ bl < w.heap.size ∧ w.cell? ⟨bl, i, none⟩ = some (.string (l.getD i ByteArray.empty)) := by
  obtain ⟨bl, cap, hv, _, hl, _⟩ := Kd.R_form h (by omega)
  injection hv with hA _ _
  obtain ⟨b', o', hA', hcs⟩ := strs_row (Kd.R_reads' h).2.2 (by intro e; rw [e] at hi; simp at hi)
  rw [hA] at hA'
  injection hA' with hA'
  injection hA' with e1 e2 _
  subst e1; subst e2
  have := hcs i hi
  rw [Nat.zero_add] at this
  exact ⟨bl, hA, hl, this⟩
theorem R_res {α : Type} {d : Kd α} {e b R0 : Nat} {w : World} {ok : Nat → Prop} {v : Value} {xs : List α} (h : Kd.R d e w b ok v xs) (hR : R0 < b) (j : Nat) (u : Value) : Kd.R d e (w.setCell ⟨R0, j, none⟩ u) b ok v xs :=
  Kd.R_mono (Kd.R_far (p := ⟨R0, j, none⟩) (Kd.R_bound h) (fun k hk e => by have := hk.2.1; have e : k = R0 := e; omega) u) (fun _ hk => hk.1)
set_option maxHeartbeats 4000000 in
set_option maxRecDepth 100000 in
theorem treeParse_g (k : Nat) (s : ByteArray) (w : World) (hG : GG w) (l : List ByteArray) (n : Int) (hU : fold_Unfold.f k s = some (l, n, 0)) (hl : l.length ≤ 1000000) (R : TreeR) (hL : tree_Parse.l0 k l 0 (.op []) = some R) : Calls Tryz.prog 15 #[.string s] w (TParseP w R) := by
  have HG := Aside0.mk hG
  have HU := Aside0.mk hU
  have HL := Aside0.mk hL
  have hnot : ∀ (x : Bool) (w : World), (Op.unary .not (.bool x)).run Tryz.prog w = .ok (.bool (!x)) w := fun _ _ => rfl
  clear hG hU hL
  go_enter Tryz.func15, Tryz.ntmps15
  go_wp2_with fail
  go_at_call 27
  refine (fold_Unfold.calls k s l n 0 _ (GG.below HG.out (by repeat (first | exact Below.refl _ _ | apply below_alloc | apply pw_below_drewN | apply below_drew1))) HU.out).mono ?_
  rintro e2 w2 ⟨v0, rfl, hR, hB⟩
  obtain ⟨A, c, rfl⟩ := Kd.R_slice hR
  have HC := Aside0.mk (fun i hi => list_cell hR i hi)
  have hres := (hB.block w.heap.size (by simp)).trans (heap_alloc_new w _)
  have HRes := Aside0.mk hres
  have HB : Aside0 (Below w.heap.size w w2) := ⟨(below_alloc (Below.refl w.heap.size w) _).trans (hB.mono (by simp))⟩
  obtain ⟨R0, hR0⟩ : ∃ R0, R0 = w.heap.size := ⟨_, rfl⟩
  rw [← hR0] at HRes ⊢
  have HR0 := Aside0.mk hR0
  have hRl : R0 < w2.heap.size := blk_lt HRes.out
  clear hR hB hres hR0
  go_wp2_with fail
  obtain ⟨g, hg⟩ : ∃ g, g = w2.heap.size := ⟨_, rfl⟩
  have HT0 : Aside0 (PG k w2 g l R 0 (.op []) (w2.alloc (.cells #[.slice none 0 0, .string ⟨#[]⟩, .slice none 0 0, .slice none 0 0, .bool false] 65))) :=
    ⟨⟨⟨[], .slice none 0 0, ⟨by rw [hg]; exact heap_alloc_new _ _, by omega, own_nil _ _ _ _, ⟨fun _ => 0, fun k hk => by simp [Value.ownBlock] at hk, Cols.nil _ _ _⟩, below_alloc (Below.refl _ _) _⟩, rfl⟩, ⟨by simp, fun t ht => by simp at ht⟩, HL.out⟩⟩
  rw [← hg]
  have HGs := Aside0.mk hg
  have hRg : R0 < g := by omega
  clear hg
  go_loopg [29] l.length (fun kk v29 wr => ∃ (i : Nat) (st : RdS), v29 = .int .i64 i ∧ i ≤ l.length ∧ Aside0 (l.length ≤ i + kk) ∧ Aside0 (PG k w2 g l R i st wr))
  case atStart => exact ⟨0, .op [], rfl, by omega, ⟨by omega⟩, HT0⟩
  case round =>
    obtain ⟨i, st, rfl, hi, HK, HT⟩ := hrel
    have HBr : Aside0 (Below w2.heap.size w2 wr) := ⟨HT.out.str.bel⟩
    have HGr : Aside0 (GG wr) := ⟨GG.below HG.out (below_then HB.out HB.out.size HBr.out)⟩
    have hwi : IntKind.i64.wrap ((i : Int) + 1) = (i : Int) + 1 := by rw [i64_w]; unfold wrap64; omega
    have HRr : Aside0 (wr.heap[R0]? = some (.cells #[.string ⟨#[]⟩, .slice none 0 0, .slice none 0 0] 31 (0, 0))) := ⟨(HBr.out.block R0 hRl).trans HRes.out⟩
    have hRw : w.heap.size ≤ R0 := Nat.le_of_eq HR0.out.symm
    have fin : ∀ (w' : World) (z y : Int), Below w2.heap.size w2 w' → TParseP w (errT z y) (.returned (.tuple #[.agg #[.string ⟨#[]⟩, .slice none 0 0, .slice none 0 0], .int .i64 z, .int .i64 y])) (((w'.setCell ⟨R0, 0, none⟩ (.string ⟨#[]⟩)).setCell ⟨R0, 1, none⟩ (.slice none 0 0)).setCell ⟨R0, 2, none⟩ (.slice none 0 0)) := fun w' z y hb =>
      ⟨_, _, rfl, Kd.R_nil _ _ _ _ _, Kd.R_nil _ _ _ _ _, below_set (below_set (below_set (below_then HB.out HB.out.size hb) hRw) hRw) hRw⟩
    have fin2 : ∀ (w' : World) (z y : Int) (o : Obj), Below w2.heap.size w2 w' → TParseP w (errT z y) (.returned (.tuple #[.agg #[.string ⟨#[]⟩, .slice none 0 0, .slice none 0 0], .int .i64 z, .int .i64 y])) ((((w'.setCell ⟨R0, 0, none⟩ (.string ⟨#[]⟩)).setCell ⟨R0, 1, none⟩ (.slice none 0 0)).setCell ⟨R0, 2, none⟩ (.slice none 0 0)).alloc o) := fun w' z y o hb =>
      ⟨_, _, rfl, Kd.R_nil _ _ _ _ _, Kd.R_nil _ _ _ _ _, below_alloc (below_set (below_set (below_set (below_then HB.out HB.out.size hb) hRw) hRw) hRw) o⟩
    have FIN := Aside0.mk fin
    have FIN2 := Aside0.mk fin2
    clear fin fin2
    by_cases hlt : i < l.length
    case neg =>
      have hil : i = l.length := by omega
      have hd1 : decide ((i : Int) < (l.length : Int)) = false := decide_eq_false (by omega)
      have hwl : IntKind.i64.wrap ((l.length : Int) + 1) = (l.length : Int) + 1 := by rw [i64_w]; unfold wrap64; omega
      have hev := HT.out.ev
      rw [hil, List.drop_eq_nil_of_le (Nat.le_refl _)] at hev
      have hRe := (Option.some.inj (show some (lastR l.length st) = some R from hev)).symm
      subst hRe
      have r0 := blk_cell HRr.out 0
      have r1 := blk_cell HRr.out 1
      have r2 := blk_cell HRr.out 2
      have z0 := blk_frozen HRr.out 0
      have z1 := blk_frozen HRr.out 1
      have z2 := blk_frozen HRr.out 2
      have hst := HT.out.str
      clear hev hil
      cases st with
      | op lo =>
        obtain ⟨fr, v, ht, _⟩ := hst
        obtain ⟨c0, c1, c2, c3, c4⟩ := ht.st.cells
        clear ht
        go_wp2_with fail
        refine bodyPost_ret (v := .tuple #[.agg #[.string ⟨#[]⟩, .slice none 0 0, .slice none 0 0], .int .i64 ((l.length : Int) + 1), .int .i64 5]) (by simp [results, Tryz.results15, go_sem, r0, r1, r2]) rfl ?_
        exact FIN.out _ _ _ HBr.out
      | dn t =>
        obtain ⟨v, vL, vK, hd⟩ := hst
        obtain ⟨c0, c1, c2, c3, c4⟩ := hd.st.cells
        obtain ⟨AL, cL, hL⟩ := Kd.R_slice hd.rL
        obtain ⟨AK, cK, hK⟩ := Kd.R_slice hd.rK
        have HD := Aside0.mk hd
        rw [hL] at c2
        rw [hK] at c3
        have HLK := Aside0.mk (And.intro hL hK)
        clear hd hL hK
        go_wp2_with fail
        refine bodyPost_ret (v := .tuple #[.agg #[.string t.f0, .slice AL t.f1.length cL, .slice AK t.f2.length cK], .int .i64 0, .int .i64 0]) (by simp [results, Tryz.results15, go_sem, r0, r1, r2]) rfl ⟨_, _, rfl, ?_, ?_, ?_⟩
        · rw [← HLK.out.1]
          exact Kd.R_lower (R_res (R_res (R_res HD.out.rL hRl _ _) hRl _ _) hRl _ _) HB.out.size
        · rw [← HLK.out.2, ← HLK.out.1]
          exact Kd.R_lower (R_res (R_res (R_res HD.out.rK hRl _ _) hRl _ _) hRl _ _) HB.out.size
        · exact below_set (below_set (below_set (below_then HB.out HB.out.size HBr.out) hRw) hRw) hRw
    case pos =>
      cases gk with
      | zero => exfalso; have := HK.out; omega
      | succ kk =>
      have hd1 : decide ((i : Int) < (l.length : Int)) = true := decide_eq_true (by omega)
      have hin : ((i : Int) < (l.length : Int)) = True := eq_true (by omega)
      have hi0 : (0 ≤ (i : Int)) = True := eq_true (by omega)
      obtain ⟨bl, rfl, hbl, hcell⟩ := HC.out i hlt
      have ci := (HBr.out.cell (p := ⟨bl, i, none⟩) hbl).trans hcell
      obtain ⟨x, hx⟩ : ∃ x, x = l.getD i ByteArray.empty := ⟨_, rfl⟩
      rw [← hx] at ci
      have hev := HT.out.ev
      rw [show l.drop i = x :: l.drop (i + 1) by rw [hx, List.drop_eq_getElem_cons hlt, List.getD_eq_getElem?_getD, List.getElem?_eq_getElem hlt]; rfl] at hev
      simp only [tree_Parse.l0] at hev
      obtain ⟨⟨q1, q2, q3, q4, q5⟩, hq, hev⟩ := Option.bind_eq_some_iff.1 hev
      have HQ := Aside0.mk hq
      have HEV := Aside0.mk hev
      clear hx hcell hev hq
      go_wp2_with fail
      go_at_call 28
      refine (line_Parse.calls k x q1 q2 q3 q4 q5 _ HGr.out HQ.out).mono ?_
      rintro e3 w3 ⟨v1, rfl, hS, hB3⟩
      obtain ⟨AP, cP, rfl⟩ := Kd.S_slice hS
      have HS := Aside0.mk (Kd.S_R hS)
      have HB3 := Aside0.mk hB3
      have HG3 := Aside0.mk (GG.below HGr.out hB3)
      have HBw : Aside0 (Below w2.heap.size w2 w3) := ⟨below_then HBr.out HBr.out.size hB3⟩
      have HR3 : Aside0 (w3.heap[R0]? = some (.cells #[.string ⟨#[]⟩, .slice none 0 0, .slice none 0 0] 31 (0, 0))) := ⟨(HBw.out.block R0 hRl).trans HRes.out⟩
      have hR3 : R0 < w3.heap.size := blk_lt HR3.out
      clear hS hB3 ci
      by_cases hq5 : q5 = 0
      case neg =>
        have hqe : (q5 == 0) = false := beq_eq_false_iff_ne.2 hq5
        have hRe := HEV.out
        rw [if_neg hq5] at hRe
        have hRe := (Option.some.inj hRe).symm
        subst hRe
        have r0 := blk_cell HR3.out 0
        have r1 := blk_cell HR3.out 1
        have r2 := blk_cell HR3.out 2
        have z0 := blk_frozen HR3.out 0
        have z1 := blk_frozen HR3.out 1
        have z2 := blk_frozen HR3.out 2
        go_wp2_with fail
        refine bodyPost_ret (v := .tuple #[.agg #[.string ⟨#[]⟩, .slice none 0 0, .slice none 0 0], .int .i64 ((i : Int) + 1), .int .i64 q5]) (by simp [results, Tryz.results15, go_sem, r0, r1, r2, hR3]) rfl ?_
        exact FIN2.out _ _ _ _ HBw.out
      case pos =>
        subst hq5
        have hev := HEV.out
        rw [if_pos rfl] at hev
        by_cases h3 : 300 ≤ i
        · rw [if_pos h3] at hev
          have hRe := (Option.some.inj hev).symm
          subst hRe
          have hge : decide ((i : Int) ≥ 300) = true := decide_eq_true (by omega)
          have r0 := blk_cell HR3.out 0
          have r1 := blk_cell HR3.out 1
          have r2 := blk_cell HR3.out 2
          have z0 := blk_frozen HR3.out 0
          have z1 := blk_frozen HR3.out 1
          have z2 := blk_frozen HR3.out 2
          clear hev
          go_wp2_with fail
          refine bodyPost_ret (v := .tuple #[.agg #[.string ⟨#[]⟩, .slice none 0 0, .slice none 0 0], .int .i64 ((i : Int) + 1), .int .i64 9]) (by simp [results, Tryz.results15, go_sem, r0, r1, r2, hR3]) rfl ?_
          exact FIN2.out _ _ _ _ HBw.out
        · rw [if_neg h3] at hev
          obtain ⟨gr, hgr, hev⟩ := Option.bind_eq_some_iff.1 hev
          obtain ⟨ok, hok, hev⟩ := Option.bind_eq_some_iff.1 hev
          have hge : decide ((i : Int) ≥ 300) = false := decide_eq_false (by omega)
          have HGR := Aside0.mk hgr
          have HOK := Aside0.mk hok
          have HEV2 := Aside0.mk hev
          have H3 := Aside0.mk h3
          clear hev hgr hok h3
          go_wp2_with fail
          go_at_call 29
          refine (line_step k w2 g i st wr _ ⟨q1, q2, q3⟩ AP cP gr ok HT.out.str (HB3.out.trans (Below.mono (by repeat (first | exact Below.refl _ _ | apply below_alloc)) HB3.out.size)) (Kd.R_below HS.out (by repeat (first | exact Below.refl _ _ | apply below_alloc))) (GG.below HG3.out (by repeat (first | exact Below.refl _ _ | apply below_alloc))) HGR.out HOK.out HT.out.sm (by have := H3.out; omega)).mono ?_
          rintro e4 w4 hP
          cases hs : stepR st ⟨q1, q2, q3⟩ gr ok with
          | error z =>
            rw [hs] at hP
            have hRe := HEV2.out
            rw [hs] at hRe
            have hRe := (Option.some.inj (show some (errT ((i : Int) + 1) z) = some R from hRe)).symm
            subst hRe
            obtain ⟨rfl, hB4⟩ := hP
            have hz : (z == 0) = false := beq_eq_false_iff_ne.2 (by rcases stepR_code hs with h | h <;> (rw [h]; decide))
            have HB4 := Aside0.mk hB4
            have HR4 : Aside0 (w4.heap[R0]? = some (.cells #[.string ⟨#[]⟩, .slice none 0 0, .slice none 0 0] 31 (0, 0))) := ⟨(hB4.block R0 hRl).trans HRes.out⟩
            have r0 := blk_cell HR4.out 0
            have r1 := blk_cell HR4.out 1
            have r2 := blk_cell HR4.out 2
            have z0 := blk_frozen HR4.out 0
            have z1 := blk_frozen HR4.out 1
            have z2 := blk_frozen HR4.out 2
            clear hB4 hs
            go_wp2_with fail
            refine bodyPost_ret (v := .tuple #[.agg #[.string ⟨#[]⟩, .slice none 0 0, .slice none 0 0], .int .i64 ((i : Int) + 1), .int .i64 z]) (by simp [results, Tryz.results15, go_sem, r0, r1, r2]) rfl ?_
            exact FIN.out _ _ _ HB4.out
          | ok s' =>
            rw [hs] at hP
            have hev := HEV2.out
            rw [hs] at hev
            obtain ⟨rfl, hS4⟩ := hP
            have HT4 : Aside0 (PG k w2 g l R (i + 1) s' w4) := ⟨⟨hS4, SmallR.step HT.out.sm hs, hev⟩⟩
            clear hS4 hs hev
            go_wp2_with fail
            go_roundg kk
            case measure => have := HK.out; omega
            case rel => exact ⟨i + 1, s', by rw [Int.natCast_add]; rfl, by omega, ⟨by have := HK.out; omega⟩, HT4⟩
theorem tree_Parse.calls (k : Nat) (a0 : ByteArray) (r1 : ByteArray) (r2 : List S49) (r3 : List S31) (r4 r5 : Int) (w : World) (hG : GG w) (h : tree_Parse.f k a0 = some (r1, r2, r3, r4, r5)) :
    Calls Tryz.prog 15 #[.string a0] w fun e w' => ∃ v1_ v2_ : Value, e = .returned (.tuple #[.agg #[.string r1, v1_, v2_], .int .i64 r4, .int .i64 r5]) ∧ Kd.R k49 49 w' w.heap.size (fun _ => True) v1_ r2 ∧ Kd.R k31 31 w' w.heap.size (fun k_ => some k_ ≠ (v1_ : Value).ownBlock) v2_ r3 ∧ Below w.heap.size w w' := by
  unfold tree_Parse.f at h
  obtain ⟨⟨l, n, e⟩, hu, h⟩ := Option.bind_eq_some_iff.1 h
  by_cases he : e = 0
  · subst he
    rw [if_pos rfl] at h
    by_cases hl : l.length ≤ 1000000
    · rw [if_pos hl] at h
      exact treeParse_g k a0 w hG l n hu hl _ h
    · rw [if_neg hl] at h; cases h
  · rw [if_neg he] at h
    have hh := Option.some.inj h
    have hp := treeParse_early k a0 w hG l n e hu he
    rw [show errT n e = (r1, r2, r3, r4, r5) from hh] at hp
    exact hp
end Go.Proofs.YtdojmdbaiddkgaaGreatDoor.Print
end
section
namespace Go.Proofs.YtdojmdbaiddkgaaGreatDoor.Print
open Go.RowKit Go.Proofs.YtdojmdbaiddkgaaGreatDoorW.PrintWords Go.Proofs.YtdojmdbaiddkgaaGreatDoorW.PrintLast Go.Proofs.YtdojmdbaiddkgaaGreatDoorW.PrintMore
set_option linter.unusedVariables false
set_option linter.unusedSimpArgs false
def trystlaw11_awake.f (k : Nat)  : Option (Bool) := (tree_Parse.f k (⟨#[66, 69, 71, 73, 78, 58, 65, 13, 10, 69, 78, 68, 58, 65, 13, 10]⟩ : ByteArray)).bind fun bt170 => (if bt170.2.2.2.2 = 0 then (if bt170.2.2.2.1 = 0 then (if bt170.1.toList = ([65] : List UInt8) then ((tree_Count.f k bt170.1 bt170.2.1 bt170.2.2.1).bind fun t180 => (some (t180 == 2))) else (some false)) else (some false)) else (some false))
theorem trystlaw11_awake.mono : ∀ k, LeO (trystlaw11_awake.f k ) (trystlaw11_awake.f (k + 1) ) := by
 intro  k
 unfold trystlaw11_awake.f
 repeat' first
   | (with_reducible first | exact tree_Count.mono _ _ _ _ | exact tree_Parse.mono _ _ | exact LeO.refl _ | exact LeO.none _ | refine LeO.ite ?_ ?_ | refine LeO.bind ?_ (fun _ => ?_)) | exact tree_Count.mono _ _ _ _ | exact tree_Parse.mono _ _ | exact LeO.none _ | refine LeO.ite ?_ ?_ | refine LeO.bind ?_ (fun _ => ?_)
set_option maxHeartbeats 8000000 in
set_option maxRecDepth 100000 in
theorem trystlaw11_awake.calls (k : Nat)  (r : Bool) (w : World) (hG : GG w) (h : trystlaw11_awake.f k  = some r) :
  Calls Tryz.prog 6 #[] w fun e w' => e = .returned (.bool r) ∧ Below w.heap.size w w' := by
 have hu31 := Tryz.underlying31; have HB := Aside0.mk (Below.refl w.heap.size w); have H : ((tree_Parse.f k (⟨#[66, 69, 71, 73, 78, 58, 65, 13, 10, 69, 78, 68, 58, 65, 13, 10]⟩ : ByteArray)).bind fun bt170 => (if bt170.2.2.2.2 = 0 then (if bt170.2.2.2.1 = 0 then (if bt170.1.toList = ([65] : List UInt8) then ((tree_Count.f k bt170.1 bt170.2.1 bt170.2.2.1).bind fun t180 => (some (t180 == 2))) else (some false)) else (some false)) else (some false))) = some r := h; clear h; replace H := Option.bind_eq_some_iff.mp H; obtain ⟨⟨t170, t171, t174, t177, t178⟩, A10, H⟩ := H; replace H : (if t178 = 0 then (if t177 = 0 then (if t170.toList = ([65] : List UInt8) then ((tree_Count.f k t170 t171 t174).bind fun t180 => (some (t180 == 2))) else (some false)) else (some false)) else (some false)) = some r := H; have A1 := Aside0.mk A10; clear A10
 replace H := zIe H; rcases H with ⟨-, c2b0, c2b1, H⟩ | ⟨c2, c2b0, c2b1, H⟩
 ·replace H := zIe H; rcases H with ⟨-, c3b0, c3b1, H⟩ | ⟨c3, c3b0, c3b1, H⟩
  ·replace H := zIe H; rcases H with ⟨-, c4b0, c4b1, H⟩ | ⟨c4, c4b0, c4b1, H⟩
   ·replace H := zO H; obtain ⟨t180, A5, H⟩ := H; obtain rfl := Option.some.inj H
    go_enter Tryz.func6, Tryz.ntmps6
    go_wp2_with (first | ((with_reducible refine gate_callee (f := 15) rfl ?_); refine goesL_ (some 5) rfl rfl Tryz.func15 (by kernel_rfl) rfl #[.string (⟨#[66, 69, 71, 73, 78, 58, 65, 13, 10, 69, 78, 68, 58, 65, 13, 10]⟩ : ByteArray)] rfl zA ?_; (with_reducible refine (tree_Parse.calls k (⟨#[66, 69, 71, 73, 78, 58, 65, 13, 10, 69, 78, 68, 58, 65, 13, 10]⟩ : ByteArray) t170 t171 t174 t177 t178 _ zG A1.out).mono ?_); rintro e w6 ⟨v172, v175, rfl, ho0, ho1, hb⟩; refine ⟨_, rfl, ?_⟩; replace HO173 := Aside0.mk (Kd.R_lower ho0 (below_size zB)); replace HO176 := Aside0.mk (Kd.R_lower ho1 (below_size zB)); replace HB := zw hb; clear hb; clear ho0; (try clear ho1)) | ((with_reducible refine gate_dst (N := 1) rfl ?_); refine zbox (N := 1) #[.string (⟨#[]⟩ : ByteArray), .slice none 0 0, .slice none 0 0] 31 (fun gb179 hg w7 hbox hb => ?_); replace HO173 := Aside0.mk (Kd.R_below (Kd.R_below HO173.out zX) hb); replace HO176 := Aside0.mk (Kd.R_below (Kd.R_elderB (Kd.R_below HO176.out zX) gb179 (Nat.le_of_eq hg.symm)) hb); replace BK179 := Aside0.mk hbox; replace GE179 := zg w hg; replace HB := zw hb; clear hb hbox hg; obtain ⟨hcz8_0, hcz8_1, hcz8_2, hfz8_0, hfz8_1, hfz8_2⟩ := zk3 BK179; obtain ⟨Ao9, co9, eo9⟩ := Kd.R_slice HO173.out; subst eo9; obtain ⟨Ao10, co10, eo10⟩ := Kd.R_slice HO176.out; subst eo10) | (go_at_call 13; (with_reducible refine (tree_Count.calls k t170 _ _ t171 _ _ t174 t180 _ zG ?side1 ?side2 ?side3 ?side4 A5.out).mono ?_); (case side1 => refine (Kd.R_reads' (e := 49) (base := w.heap.size) (ok := fun k_ => True) (n := t171.length) (c := co9) ?_).2.2; exact (by (with_reducible repeat (first | apply Kd.R_alloc | apply Kd.R_drewN | apply Kd.R_drew)); exact (Kd.R_mono (Kd.R_far (p := ⟨gb179, 2, none⟩) (Kd.R_far (p := ⟨gb179, 1, none⟩) (Kd.R_far (p := ⟨gb179, 0, none⟩) (Kd.R_types HO173.out BK179.out (by decide)) (fun _ hk => hk.2) (.string t170)) (fun _ hk => hk.2) (.slice Ao9 t171.length co9)) (fun _ hk => hk.2) (.slice Ao10 t174.length co10)) (fun _ h_ => h_.1)))); (case side2 => exact (Kd.R_reads' HO173.out).2.1); (case side3 => refine (Kd.R_reads' (e := 31) (base := w.heap.size) (ok := fun k_ => (some k_ ≠ (.slice Ao9 t171.length co9 : Value).ownBlock ∧ k_ ≠ gb179)) (n := t174.length) (c := co10) ?_).2.2; exact (by (with_reducible repeat (first | apply Kd.R_alloc | apply Kd.R_drewN | apply Kd.R_drew)); exact (Kd.R_mono (Kd.R_far (p := ⟨gb179, 2, none⟩) (Kd.R_far (p := ⟨gb179, 1, none⟩) (Kd.R_far (p := ⟨gb179, 0, none⟩) (Kd.R_mono HO176.out (fun k_ hk => (⟨hk, hk.2⟩ : _ ∧ k_ ≠ gb179))) (fun _ hk => hk.2) (.string t170)) (fun _ hk => hk.2) (.slice Ao9 t171.length co9)) (fun _ hk => hk.2) (.slice Ao10 t174.length co10)) (fun _ h_ => h_.1)))); (case side4 => exact (Kd.R_reads' HO176.out).2.1); rintro e w11 ⟨rfl, hb⟩; replace HO173 := Aside0.mk (Kd.R_below (by (with_reducible repeat (first | apply Kd.R_alloc | apply Kd.R_drewN | apply Kd.R_drew)); exact (Kd.R_mono (Kd.R_far (p := ⟨gb179, 2, none⟩) (Kd.R_far (p := ⟨gb179, 1, none⟩) (Kd.R_far (p := ⟨gb179, 0, none⟩) (Kd.R_types HO173.out BK179.out (by decide)) (fun _ hk => hk.2) (.string t170)) (fun _ hk => hk.2) (.slice Ao9 t171.length co9)) (fun _ hk => hk.2) (.slice Ao10 t174.length co10)) (fun _ h_ => h_.1))) hb); replace HO176 := Aside0.mk (Kd.R_below (by (with_reducible repeat (first | apply Kd.R_alloc | apply Kd.R_drewN | apply Kd.R_drew)); exact (Kd.R_mono (Kd.R_far (p := ⟨gb179, 2, none⟩) (Kd.R_far (p := ⟨gb179, 1, none⟩) (Kd.R_far (p := ⟨gb179, 0, none⟩) (Kd.R_mono HO176.out (fun k_ hk => (⟨hk, hk.2⟩ : _ ∧ k_ ≠ gb179))) (fun _ hk => hk.2) (.string t170)) (fun _ hk => hk.2) (.slice Ao9 t171.length co9)) (fun _ hk => hk.2) (.slice Ao10 t174.length co10)) (fun _ h_ => h_.1))) hb); replace BK179 := Aside0.mk (blk_below (g := gb179) (o := .cells #[.string t170, .slice Ao9 t171.length co9, .slice Ao10 t174.length co10] 31 (0, 0)) (by (with_reducible repeat (first | refine blk_drewN ?_ _ | refine blk_drew ?_ | refine blk_alloc ?_ _)); refine blk_put (cs := #[.string t170, .slice Ao9 t171.length co9, .slice none 0 0]) ?_ 2 _ rfl; (with_reducible repeat (first | refine blk_drewN ?_ _ | refine blk_drew ?_ | refine blk_alloc ?_ _)); refine blk_put (cs := #[.string t170, .slice none 0 0, .slice none 0 0]) ?_ 1 _ rfl; (with_reducible repeat (first | refine blk_drewN ?_ _ | refine blk_drew ?_ | refine blk_alloc ?_ _)); refine blk_put (cs := #[.string (⟨#[]⟩ : ByteArray), .slice none 0 0, .slice none 0 0]) ?_ 0 _ rfl; (with_reducible repeat (first | refine blk_drewN ?_ _ | refine blk_drew ?_ | refine blk_alloc ?_ _)); exact BK179.out) hb); replace HB := zw hb; clear hb))
    go_ret; exact ⟨zE, zB⟩
   ·obtain rfl := Option.some.inj H
    go_enter Tryz.func6, Tryz.ntmps6
    go_wp2_with (first | ((with_reducible refine gate_callee (f := 15) rfl ?_); refine goesL_ (some 5) rfl rfl Tryz.func15 (by kernel_rfl) rfl #[.string (⟨#[66, 69, 71, 73, 78, 58, 65, 13, 10, 69, 78, 68, 58, 65, 13, 10]⟩ : ByteArray)] rfl zA ?_; (with_reducible refine (tree_Parse.calls k (⟨#[66, 69, 71, 73, 78, 58, 65, 13, 10, 69, 78, 68, 58, 65, 13, 10]⟩ : ByteArray) t170 t171 t174 t177 t178 _ zG A1.out).mono ?_); rintro e w12 ⟨v172, v175, rfl, ho0, ho1, hb⟩; refine ⟨_, rfl, ?_⟩; replace HO173 := Aside0.mk (Kd.R_lower ho0 (below_size zB)); replace HO176 := Aside0.mk (Kd.R_lower ho1 (below_size zB)); replace HB := zw hb; clear hb; clear ho0; (try clear ho1)) | ((with_reducible refine gate_dst (N := 1) rfl ?_); refine zbox (N := 1) #[.string (⟨#[]⟩ : ByteArray), .slice none 0 0, .slice none 0 0] 31 (fun gb179 hg w13 hbox hb => ?_); replace HO173 := Aside0.mk (Kd.R_below (Kd.R_below HO173.out zX) hb); replace HO176 := Aside0.mk (Kd.R_below (Kd.R_elderB (Kd.R_below HO176.out zX) gb179 (Nat.le_of_eq hg.symm)) hb); replace BK179 := Aside0.mk hbox; replace GE179 := zg w hg; replace HB := zw hb; clear hb hbox hg; obtain ⟨hcz14_0, hcz14_1, hcz14_2, hfz14_0, hfz14_1, hfz14_2⟩ := zk3 BK179; obtain ⟨Ao15, co15, eo15⟩ := Kd.R_slice HO173.out; subst eo15; obtain ⟨Ao16, co16, eo16⟩ := Kd.R_slice HO176.out; subst eo16))
    go_ret; exact ⟨zE, zB⟩
  ·obtain rfl := Option.some.inj H
   go_enter Tryz.func6, Tryz.ntmps6
   go_wp2_with (first | ((with_reducible refine gate_callee (f := 15) rfl ?_); refine goesL_ (some 5) rfl rfl Tryz.func15 (by kernel_rfl) rfl #[.string (⟨#[66, 69, 71, 73, 78, 58, 65, 13, 10, 69, 78, 68, 58, 65, 13, 10]⟩ : ByteArray)] rfl zA ?_; (with_reducible refine (tree_Parse.calls k (⟨#[66, 69, 71, 73, 78, 58, 65, 13, 10, 69, 78, 68, 58, 65, 13, 10]⟩ : ByteArray) t170 t171 t174 t177 t178 _ zG A1.out).mono ?_); rintro e w17 ⟨v172, v175, rfl, ho0, ho1, hb⟩; refine ⟨_, rfl, ?_⟩; replace HO173 := Aside0.mk (Kd.R_lower ho0 (below_size zB)); replace HO176 := Aside0.mk (Kd.R_lower ho1 (below_size zB)); replace HB := zw hb; clear hb; clear ho0; (try clear ho1)) | ((with_reducible refine gate_dst (N := 1) rfl ?_); refine zbox (N := 1) #[.string (⟨#[]⟩ : ByteArray), .slice none 0 0, .slice none 0 0] 31 (fun gb179 hg w18 hbox hb => ?_); replace HO173 := Aside0.mk (Kd.R_below (Kd.R_below HO173.out zX) hb); replace HO176 := Aside0.mk (Kd.R_below (Kd.R_elderB (Kd.R_below HO176.out zX) gb179 (Nat.le_of_eq hg.symm)) hb); replace BK179 := Aside0.mk hbox; replace GE179 := zg w hg; replace HB := zw hb; clear hb hbox hg; obtain ⟨hcz19_0, hcz19_1, hcz19_2, hfz19_0, hfz19_1, hfz19_2⟩ := zk3 BK179; obtain ⟨Ao20, co20, eo20⟩ := Kd.R_slice HO173.out; subst eo20; obtain ⟨Ao21, co21, eo21⟩ := Kd.R_slice HO176.out; subst eo21))
   go_ret; exact ⟨zE, zB⟩
 ·obtain rfl := Option.some.inj H
  go_enter Tryz.func6, Tryz.ntmps6
  go_wp2_with (first | ((with_reducible refine gate_callee (f := 15) rfl ?_); refine goesL_ (some 5) rfl rfl Tryz.func15 (by kernel_rfl) rfl #[.string (⟨#[66, 69, 71, 73, 78, 58, 65, 13, 10, 69, 78, 68, 58, 65, 13, 10]⟩ : ByteArray)] rfl zA ?_; (with_reducible refine (tree_Parse.calls k (⟨#[66, 69, 71, 73, 78, 58, 65, 13, 10, 69, 78, 68, 58, 65, 13, 10]⟩ : ByteArray) t170 t171 t174 t177 t178 _ zG A1.out).mono ?_); rintro e w22 ⟨v172, v175, rfl, ho0, ho1, hb⟩; refine ⟨_, rfl, ?_⟩; replace HO173 := Aside0.mk (Kd.R_lower ho0 (below_size zB)); replace HO176 := Aside0.mk (Kd.R_lower ho1 (below_size zB)); replace HB := zw hb; clear hb; clear ho0; (try clear ho1)) | ((with_reducible refine gate_dst (N := 1) rfl ?_); refine zbox (N := 1) #[.string (⟨#[]⟩ : ByteArray), .slice none 0 0, .slice none 0 0] 31 (fun gb179 hg w23 hbox hb => ?_); replace HO173 := Aside0.mk (Kd.R_below (Kd.R_below HO173.out zX) hb); replace HO176 := Aside0.mk (Kd.R_below (Kd.R_elderB (Kd.R_below HO176.out zX) gb179 (Nat.le_of_eq hg.symm)) hb); replace BK179 := Aside0.mk hbox; replace GE179 := zg w hg; replace HB := zw hb; clear hb hbox hg; obtain ⟨hcz24_0, hcz24_1, hcz24_2, hfz24_0, hfz24_1, hfz24_2⟩ := zk3 BK179; obtain ⟨Ao25, co25, eo25⟩ := Kd.R_slice HO173.out; subst eo25; obtain ⟨Ao26, co26, eo26⟩ := Kd.R_slice HO176.out; subst eo26))
  go_ret; exact ⟨zE, zB⟩
end Go.Proofs.YtdojmdbaiddkgaaGreatDoor.Print
end
section
set_option linter.unusedVariables false
set_option linter.unusedSimpArgs false
set_option linter.unusedSectionVars false
namespace Go.Proofs.YtdojmdbaiddkgaaGreatDoor.Pure
open Go.RowKit Go.Proofs.YtdojmdbaiddkgaaGreatDoor.Print Go.Proofs.YtdojmdbaiddkgaaGreatDoorW.PrintWords Go.Proofs.YtdojmdbaiddkgaaGreatDoorW.PrintLast Go.Proofs.YtdojmdbaiddkgaaGreatDoorW.PrintMore
abbrev RP := S76
abbrev LP := S77
def toP (x : RP) : LP := ⟨x.f0, x.f1⟩
theorem wrapS (i n : Nat) (h : i < n) (hn : n ≤ 9000000000000000000) : wrap64 ((i : Int) + 1) = ((i + 1 : Nat) : Int) := by unfold wrap64; omega
theorem rdS (l : List ByteArray) (i : Nat) (h : i < l.length) : rdOf ByteArray.empty l (i : Int) = l[i] := by
  unfold rdOf
  rw [Int.toNat_natCast, List.getD_eq_getElem?_getD, List.getElem?_eq_getElem h]; rfl
theorem eqPs_self : ∀ l : List LP, eqPs l l = true
  | [] => rfl
  | p :: t => by unfold eqPs eqP; simp [eqPs_self t]
end Go.Proofs.YtdojmdbaiddkgaaGreatDoor.Pure
end
section
set_option linter.unusedVariables false
set_option linter.unusedSimpArgs false
set_option linter.unusedSectionVars false
namespace Go.Proofs.YtdojmdbaiddkgaaGreatDoor.Pure
open Go.RowKit Go.Proofs.YtdojmdbaiddkgaaGreatDoor.Print Go.Proofs.YtdojmdbaiddkgaaGreatDoorW.PrintWords Go.Proofs.YtdojmdbaiddkgaaGreatDoorW.PrintLast Go.Proofs.YtdojmdbaiddkgaaGreatDoorW.PrintMore
abbrev RL := S53
abbrev PL := S49
abbrev RT := S25
abbrev PT := S31
def toL (x : RL) : PL := ⟨x.f0, x.f1.map toP, x.f2⟩
mutual
def toT : RT → PT
  | ⟨n, l, k⟩ => ⟨n, l.map toL, toTs k⟩
def toTs : List RT → List PT
  | [] => []
  | t :: r => toT t :: toTs r
end
theorem toTs_map : ∀ l : List RT, toTs l = l.map toT
  | [] => by simp [toTs]
  | t :: r => by simp only [toTs, List.map_cons]; rw [toTs_map r]
theorem toT_f (t : RT) : toT t = ⟨t.f0, t.f1.map toL, t.f2.map toT⟩ := by
  obtain ⟨n, l, k⟩ := t
  simp only [toT]; rw [toTs_map]
/-- A line's lists are of a size that any memory bears. -/
def LB (x : RL) : Prop := x.f1.length < 3518437208883 ∧ ∀ p ∈ x.f1, p.f1.length < 8796093022208
mutual
def TB : RT → Prop
  | ⟨n, l, k⟩ => (l.length < 2513169434916 ∧ ∀ x ∈ l, LB x) ∧ k.length < 2199023255552 ∧ TBs k
def TBs : List RT → Prop
  | [] => True
  | t :: r => TB t ∧ TBs r
end
theorem TBs_all : ∀ l : List RT, TBs l → ∀ t ∈ l, TB t
  | [], _, t, ht => by simp at ht
  | x :: r, h, t, ht => by
    simp only [TBs] at h
    rcases List.mem_cons.1 ht with rfl | ht
    · exact h.1
    · exact TBs_all r h.2 t ht
theorem TB_of {t : RT} (h : TB t) : (t.f1.length < 2513169434916 ∧ ∀ x ∈ t.f1, LB x) ∧ t.f2.length < 2199023255552 ∧ ∀ x ∈ t.f2, TB x := by
  obtain ⟨n, l, k⟩ := t
  simp only [TB] at h
  exact ⟨h.1, h.2.1, TBs_all k h.2.2⟩
theorem kid_lt {t : RT} {x : RT} (h : x ∈ t.f2) : SizeOf.sizeOf x < SizeOf.sizeOf t := by
  obtain ⟨n, l, k⟩ := t
  have h : x ∈ k := h
  have h1 := List.sizeOf_lt_of_mem h
  simp
  omega
theorem eqLns_self : ∀ l : List PL, eqLns l l = true
  | [] => rfl
  | p :: t => by unfold eqLns eqLn eqL; rw [eqPs_self, decide_eq_true rfl, decide_eq_true rfl, eqLns_self t]; rfl
theorem eqT_self : ∀ (N : Nat) (a : PT), SizeOf.sizeOf a < N → eqT a a = true
  | 0, a, h => by omega
  | N + 1, a, h => by
    obtain ⟨n, l, k⟩ := a
    have hk : ∀ m : List PT, (∀ x ∈ m, SizeOf.sizeOf x < N) → eqTs m m = true := by
      intro m
      induction m with
      | nil => intro _; simp [eqTs]
      | cons x t ih => intro hm; simp only [eqTs]; rw [eqT_self N x (hm x (by simp)), ih (fun y hy => hm y (by simp [hy]))]; rfl
    simp only [eqT]
    rw [eqLns_self, hk k (fun x hx => by have h1 := List.sizeOf_lt_of_mem hx; simp at h; omega)]
    simp
end Go.Proofs.YtdojmdbaiddkgaaGreatDoor.Pure
end
section
set_option linter.unusedVariables false
set_option linter.unusedSimpArgs false
namespace Go.Proofs.YtdojmdbaiddkgaaGreatDoor.Pure
open Go.RowKit Go.Proofs.YtdojmdbaiddkgaaGreatDoor.Print Go.Proofs.YtdojmdbaiddkgaaGreatDoorW.PrintWords Go.Proofs.YtdojmdbaiddkgaaGreatDoorW.PrintLast Go.Proofs.YtdojmdbaiddkgaaGreatDoorW.PrintMore
theorem bt_nat (s : ByteArray) (m : Nat) : bt s (m : Int) = ((s.data.toList.getD m 0).toNat : Int) := by
  unfold bt
  by_cases h : m < s.size
  · rw [dif_pos (by simpa using h)]
    have : s.data.toList.getD m 0 = s[m] := by
      rw [List.getD_eq_getElem?_getD, List.getElem?_eq_getElem (by simpa using h)]; rfl
    rw [this]; rfl
  · rw [dif_neg (by simpa using h)]
    rw [List.getD_eq_getElem?_getD, List.getElem?_eq_none (by simp; omega)]; rfl
theorem wrap_one (m : Nat) (h : m ≤ 140737488355327) : wrap64 ((m : Int) + 1) = ((m + 1 : Nat) : Int) := by
  unfold wrap64; omega
def refN (n b0 b1 b2 b3 : Nat) : Nat :=
  if b0 < 128 then 1
  else if 194 ≤ b0 ∧ b0 < 224 then (if n < 2 then 0 else if 128 ≤ b1 ∧ b1 < 192 then 2 else 0)
  else if 224 ≤ b0 ∧ b0 < 240 then (if n < 3 then 0 else if (128 ≤ b1 ∧ b1 < 192) ∧ 128 ≤ b2 ∧ b2 < 192 then (if b0 = 224 ∧ b1 < 160 ∨ b0 = 237 ∧ 159 < b1 then 0 else 3) else 0)
  else if 240 ≤ b0 ∧ b0 < 245 then (if n < 4 then 0 else if (128 ≤ b1 ∧ b1 < 192) ∧ (128 ≤ b2 ∧ b2 < 192) ∧ 128 ≤ b3 ∧ b3 < 192 then (if b0 = 240 ∧ b1 < 144 ∨ b0 = 244 ∧ 143 < b1 then 0 else 4) else 0)
  else 0
def nxN (d : Nat × Nat) : Nat := if d = (65533, 1) then 0 else d.2
set_option maxHeartbeats 2000000 in
theorem refN_eq (n b0 b1 b2 b3 : Nat) (hn : 1 ≤ n) (h0 : b0 < 256) (h1 : b1 < 256) (h2 : b2 < 256) (h3 : b3 < 256) : refN n b0 b1 b2 b3 = nxN (Lib.decodeN n b0 b1 b2 b3) := by
  unfold refN nxN Lib.decodeN
  by_cases c0 : b0 < 128
  · rw [if_pos c0, if_pos c0, if_neg (by simp; omega)]
  · rw [if_neg c0, if_neg c0]
    by_cases c1 : 194 ≤ b0 ∧ b0 < 224
    · rw [if_pos c1]
      repeat' split
      all_goals first | rfl | (exfalso; omega) | (simp_all; omega) | simp_all
    · rw [if_neg c1]
      by_cases c2 : 224 ≤ b0 ∧ b0 < 240
      · rw [if_pos c2]
        repeat' split
        all_goals first | rfl | (exfalso; omega) | (simp_all; omega) | simp_all
      · rw [if_neg c2]
        by_cases c3 : 240 ≤ b0 ∧ b0 < 245
        · rw [if_pos c3]
          repeat' split
          all_goals first | rfl | (exfalso; omega) | (simp_all; omega) | simp_all
        · rw [if_neg c3]
          repeat' split
          all_goals first | rfl | (exfalso; omega) | (simp_all; omega) | simp_all
theorem lt256 (l : List UInt8) (m : Nat) : (l.getD m 0).toNat < 256 := (l.getD m 0).toNat_lt
theorem v1 : wrap64 (1 + 1) = 2 := by unfold wrap64; omega
theorem v2 : wrap64 (2 + 1) = 3 := by unfold wrap64; omega
theorem v3 : wrap64 (3 + 1) = 4 := by unfold wrap64; omega
section
variable {s : ByteArray} {i b0 b1 b2 b3 : Nat}
end
/-- How many bytes the code point at the head has; 0: it is none. -/
def nx (l : List UInt8) : Nat := nxN (Lib.decodeL l)
theorem decL_pos (l : List UInt8) (hne : l ≠ []) : 1 ≤ (Lib.decodeL l).2 := by
  unfold Lib.decodeL
  refine Lib.decode_width_pos _ 0 ?_
  show 0 < l.toArray.size
  rw [List.size_toArray]
  exact List.length_pos_iff.2 hne
theorem nx_bad (l : List UInt8) (hne : l ≠ []) : nx l = 0 ↔ (Lib.decodeL l).1 = 65533 ∧ (Lib.decodeL l).2 = 1 := by
  have h1 := decL_pos l hne
  unfold nx nxN
  constructor
  · intro h
    split at h
    · rename_i h2; rw [h2]; exact ⟨rfl, rfl⟩
    · omega
  · rintro ⟨h2, h3⟩
    rw [if_pos (by cases hd : Lib.decodeL l; rw [hd] at h2 h3; simp at h2 h3; rw [h2, h3])]
theorem nx_good (l : List UInt8) (h : ¬ ((Lib.decodeL l).1 = 65533 ∧ (Lib.decodeL l).2 = 1)) : nx l = (Lib.decodeL l).2 := by
  unfold nx nxN
  rw [if_neg (fun e => h (by rw [e]; exact ⟨rfl, rfl⟩))]
theorem drop_at (s : ByteArray) (k : Nat) (h : k < s.size) : s.data.toList.drop k = s.data.toList.getD k 0 :: s.data.toList.drop (k + 1) := by
  rw [List.drop_eq_getElem_cons (by simpa using h)]
  rw [List.getD_eq_getElem?_getD, List.getElem?_eq_getElem (by simpa using h)]; rfl
theorem ne_nat (c : UInt8) (n : Nat) (hn : n < 256) (h : c ≠ n.toUInt8) : ¬ (c.toNat : Int) = (n : Int) :=
  fun e => h (by apply UInt8.toNat_inj.1; have : c.toNat = n := by omega
                 rw [this]; simp; omega)
end Go.Proofs.YtdojmdbaiddkgaaGreatDoor.Pure
end
section
set_option linter.unusedVariables false
set_option linter.unusedSimpArgs false
namespace Go.Proofs.YtdojmdbaiddkgaaGreatDoor.Pure
open Go.RowKit Go.Proofs.YtdojmdbaiddkgaaGreatDoor.Print Go.Proofs.YtdojmdbaiddkgaaGreatDoorW.PrintWords Go.Proofs.YtdojmdbaiddkgaaGreatDoorW.PrintLast Go.Proofs.YtdojmdbaiddkgaaGreatDoorW.PrintMore
/-- May this byte stand? -/
def okB (feeds : Bool) (c : UInt8) : Bool := !(c == 127 || (decide (c.toNat < 32) && c != 9 && !(feeds && c == 10)))
def cleanR (feeds : Bool) (l : List UInt8) : Int := if Lib.validD l = true then (if l.all (okB feeds) = true then 0 else 7) else 3
theorem control_some (c : UInt8) (f : Bool) : escape_control.f c.toNat f = some (!okB f c) := by
  have hc := c.toNat_lt
  unfold escape_control.f
  by_cases h3 : c = 9
  · subst h3; cases f <;> rfl
  · rw [if_neg (show ¬ (c.toNat : Int) = 9 from ne_nat c 9 (by omega) h3)]
    by_cases h4 : c = 10
    · subst h4; cases f <;> rfl
    · rw [if_neg (show ¬ (c.toNat : Int) = 10 from ne_nat c 10 (by omega) h4)]
      by_cases h2 : (c.toNat : Int) < 32
      · rw [if_pos h2]
        have : okB f c = false := by
          have e2 : decide (c.toNat < 32) = true := by simp; omega
          have e4 : (c == 10) = false := by simp [h4]
          have e9 : (c != 9) = true := by simp [h3]
          unfold okB; rw [e2, e4, e9]; cases f <;> simp
        rw [this]; rfl
      · rw [if_neg h2]
        have e2 : decide (c.toNat < 32) = false := by simp; omega
        by_cases h1 : c = 127
        · subst h1; cases f <;> rfl
        · have : ((c.toNat : Int) == 127) = false := beq_eq_false_iff_ne.2 (show ¬ (c.toNat : Int) = 127 from ne_nat c 127 (by omega) h1)
          have e1 : (c == 127) = false := by simp [h1]
          unfold okB; rw [this, e1, e2]; simp
theorem escClean_ev (s : ByteArray) (f : Bool) (hs : s.size ≤ 140737488351232) : ∀ (n i : Nat), s.size - i ≤ n → i ≤ s.size → Ev (fun k => escape_Clean.l0 k s f (s.size : Int) i) (if (s.data.toList.drop i).all (okB f) = true then (0 : Int) else 7)
  | 0, i, h, hi => by
    obtain rfl : i = s.size := by omega
    refine Ev.step (f := fun _ => some 0) (fun k => ?_) ?_
    · simp only [escape_Clean.l0]; rw [if_neg (by omega)]
    · rw [List.drop_of_length_le (by simp)]; exact Ev.now _
  | n + 1, i, h, hi => by
    by_cases hlt : i < s.size
    · rw [drop_at s i hlt]
      have hb := bt_nat s i
      have ih := escClean_ev s f hs n (i + 1) (by omega) (by omega)
      generalize s.data.toList.getD i 0 = c at *
      refine Ev.step (f := fun k => if okB f c = true then escape_Clean.l0 k s f (s.size : Int) ((i + 1 : Nat) : Int) else some 7) (fun k => ?_) ?_
      · simp only [escape_Clean.l0, hb, control_some, Option.bind_some]
        rw [if_pos (by omega), if_pos (by omega), if_pos (by omega), wrap_one i (by omega)]
        cases okB f c <;> rfl
      · rw [List.all_cons]
        cases hok : okB f c
        · exact Ev.now 7
        · simpa using ih
    · obtain rfl : i = s.size := by omega
      refine Ev.step (f := fun _ => some 0) (fun k => ?_) ?_
      · simp only [escape_Clean.l0]; rw [if_neg (by omega)]
      · rw [List.drop_of_length_le (by simp)]; exact Ev.now _
theorem escClean (s : ByteArray) (f : Bool) (hs : s.size ≤ 140737488351232) : Ev (fun k => escape_Clean.f k s f) (cleanR f s.data.toList) := by
  unfold escape_Clean.f
  have h1 : utf8_ValidString.f s = some (Lib.validD s.data.toList) := by unfold utf8_ValidString.f; rw [if_pos (by omega)]
  simp only [h1, Option.bind_some]
  unfold cleanR
  cases hv : Lib.validD s.data.toList
  · exact Ev.now 3
  · have := escClean_ev s f hs s.size 0 (by omega) (by omega)
    simpa using this
end Go.Proofs.YtdojmdbaiddkgaaGreatDoor.Pure
end
section
set_option linter.unusedVariables false
set_option linter.unusedSimpArgs false
set_option linter.unusedSectionVars false
namespace Go.Proofs.YtdojmdbaiddkgaaGreatDoor.Pure
open Go.RowKit Go.Proofs.YtdojmdbaiddkgaaGreatDoor.Print Go.Proofs.YtdojmdbaiddkgaaGreatDoorW.PrintWords Go.Proofs.YtdojmdbaiddkgaaGreatDoorW.PrintLast Go.Proofs.YtdojmdbaiddkgaaGreatDoorW.PrintMore
def upN (n : Nat) : Bool := (decide (65 ≤ n) && decide (n ≤ 90)) || (decide (48 ≤ n) && decide (n ≤ 57)) || n == 45
def upB (c : UInt8) : Bool := upN c.toNat
theorem sign_all : ∀ n : Fin 256, line_sign.f ((n.1 : Nat) : Int) true = some (upN n.1) := by decide +kernel
theorem sign_up (c : UInt8) : line_sign.f c.toNat true = some (upB c) := sign_all ⟨c.toNat, c.toNat_lt⟩
def nameR (s : ByteArray) : Bool := s.data.toList.all upB && (decide (1 ≤ s.size) && decide (s.size ≤ 60))
theorem nameL_ev (s : ByteArray) (hs : s.size ≤ 140737488351232) : ∀ (n i : Nat), s.size - i ≤ n → i ≤ s.size → Ev (fun k => line_Name.l0 k s (s.size : Int) i) ((s.data.toList.drop i).all upB && (decide (1 ≤ s.size) && decide (s.size ≤ 60)))
  | 0, i, h, hi => by
    obtain rfl : i = s.size := by omega
    refine Ev.step (f := fun _ => some (decide (1 ≤ s.size) && decide (s.size ≤ 60))) (fun k => ?_) ?_
    · simp only [line_Name.l0]; rw [if_neg (by omega)]
      by_cases h1 : 1 ≤ s.size
      · rw [if_pos (by omega), decide_eq_true h1, Bool.true_and]; exact congrArg some (decide_eq_decide.2 (by omega))
      · rw [if_neg (by omega), decide_eq_false h1, Bool.false_and]
    · rw [List.drop_of_length_le (by simp)]; exact Ev.now _
  | n + 1, i, h, hi => by
    by_cases hlt : i < s.size
    · rw [drop_at s i hlt]
      have hb := bt_nat s i
      have ih := nameL_ev s hs n (i + 1) (by omega) (by omega)
      generalize s.data.toList.getD i 0 = c at *
      refine Ev.step (f := fun k => if upB c = true then line_Name.l0 k s (s.size : Int) ((i + 1 : Nat) : Int) else some false) (fun k => ?_) ?_
      · simp only [line_Name.l0, hb, sign_up, Option.bind_some]
        rw [if_pos (by omega), if_pos (by omega), if_pos (by omega), wrap_one i (by omega)]
      · rw [List.all_cons]
        cases hok : upB c
        · exact Ev.now false
        · simpa using ih
    · exact nameL_ev s hs 0 i (by omega) hi
theorem nameL (s : ByteArray) (hs : s.size ≤ 140737488351232) : Ev (fun k => line_Name.f k s) (nameR s) := by
  have := nameL_ev s hs s.size 0 (by omega) (by omega)
  rw [List.drop_zero] at this
  exact this
def cleanB (x : ByteArray) : Bool := decide (cleanR true x.data.toList = 0)
def parR (nm : ByteArray) (l : List ByteArray) : Bool := nameR nm && (decide (1 ≤ l.length) && (decide (l.length ≤ 60) && l.all cleanB))
theorem cleanB_ne {x : ByteArray} (h : cleanB x = false) : ¬ cleanR true x.data.toList = 0 := of_decide_eq_false h
theorem parL_ev (l : List ByteArray) (hl : l.length ≤ 60) (hs : ∀ x ∈ l, x.size ≤ 140737488351232) : ∀ (n i : Nat), i + n = l.length → Ev (fun k => line_Param_formed.l0 k l (l.length : Int) i) ((l.drop i).all cleanB)
  | 0, i, h => by
    rw [List.drop_eq_nil_of_le (by omega)]
    exact Ev.step (f := fun _ => some true) (fun k => by simp only [line_Param_formed.l0]; rw [if_neg (by omega)]) (Ev.now _)
  | n + 1, i, h => by
    have hil : i < l.length := by omega
    rw [List.drop_eq_getElem_cons hil, List.all_cons]
    refine Ev.step (f := fun k => (escape_Clean.f k l[i] true).bind fun t => if t = 0 then line_Param_formed.l0 k l (l.length : Int) ((i + 1 : Nat) : Int) else some false) (fun k => by simp only [line_Param_formed.l0]; rw [if_pos (by omega), if_pos (by omega), if_pos (by omega), rdS l i hil, wrapS i _ hil (by omega)]) ?_
    refine Ev.bind (escClean _ _ (hs _ (List.getElem_mem hil))) ?_
    have ih := parL_ev l hl hs n (i + 1) (by omega)
    cases hc : cleanB l[i] with
    | false => exact Ev.congr (f := fun _ => some false) (fun k => by rw [if_neg (cleanB_ne hc)]) (Ev.now _)
    | true => rw [Bool.true_and]; exact Ev.congr (fun k => by rw [if_pos (of_decide_eq_true hc)]) ih
theorem parL_f (nm : ByteArray) (l : List ByteArray) (hn : nm.size ≤ 140737488351232) (hs : ∀ x ∈ l, x.size ≤ 140737488351232) : Ev (fun k => line_Param_formed.f k nm l) (parR nm l) := by
  have hno : Ev (fun k => line_Param_formed.j0 k true nm l) false := Ev.step (f := fun _ => some false) (fun k => by simp only [line_Param_formed.j0]; rfl) (Ev.now _)
  refine Ev.bind (nameL nm hn) ?_
  unfold parR
  cases nameR nm with
  | false => exact Ev.congr (fun k => by rw [if_neg (by simp)]) hno
  | true =>
    by_cases h1 : 1 ≤ l.length
    · by_cases h2 : l.length ≤ 60
      · rw [decide_eq_true h1, decide_eq_true h2]
        have e : decide ((l.length : Int) > 60) = false := decide_eq_false (by omega)
        refine Ev.congr (f := fun k => line_Param_formed.j0 k false nm l) (fun k => by rw [if_pos rfl, if_neg (by omega), e]) ?_
        have := parL_ev l h2 hs l.length 0 (by omega)
        rw [List.drop_zero] at this
        exact Ev.step (fun k => by simp only [line_Param_formed.j0]; rfl) this
      · rw [decide_eq_true h1, decide_eq_false h2]
        have e : decide ((l.length : Int) > 60) = true := decide_eq_true (by omega)
        exact Ev.congr (fun k => by rw [if_pos rfl, if_neg (by omega), e]) hno
    · rw [decide_eq_false h1]
      exact Ev.congr (fun k => by rw [if_pos rfl, if_pos (by omega)]) hno
def okPs : List LP → List LP → Bool
  | _, [] => true
  | seen, p :: t => parR p.f0 p.f1 && (!seen.any (hasN p.f0) && okPs (seen ++ [p]) t)
def formR (nm : ByteArray) (l : List LP) (v : ByteArray) : Bool := nameR nm && (decide (l.length ≤ 60) && (decide (cleanR false v.data.toList = 0) && okPs [] l))
theorem idxN_any (a : ByteArray) : ∀ (l : List LP) (i : Nat), decide (idxN a l i ≥ 0) = l.any (hasN a)
  | [], i => rfl
  | p :: t, i => by
    rw [idxN, List.any_cons]
    cases h : hasN a p with
    | true => rw [if_pos rfl, Bool.true_or]; exact decide_eq_true (by omega)
    | false => rw [if_neg (by simp), Bool.false_or]; exact idxN_any a t (i + 1)
theorem rdP (l : List LP) (i : Nat) (h : i < l.length) : rd_T77 l (i : Int) = l[i] := by
  unfold rd_T77
  rw [Int.toNat_natCast, List.getD_eq_getElem?_getD, List.getElem?_eq_getElem h]; rfl
def ParB' (p : LP) : Prop := p.f0.size ≤ 140737488351232 ∧ ∀ x ∈ p.f1, x.size ≤ 140737488351232
theorem formL_ev (nm v : ByteArray) (l : List LP) (hl : l.length ≤ 60) (hs : ∀ p ∈ l, ParB' p) : ∀ (n i : Nat), i + n = l.length → Ev (fun k => line_Formed.l0 k l (l.length : Int) i nm l v) (okPs (l.take i) (l.drop i))
  | 0, i, h => by
    rw [List.drop_eq_nil_of_le (by omega)]
    exact Ev.step (f := fun _ => some true) (fun k => by simp only [line_Formed.l0]; rw [if_neg (by omega)]) (Ev.now _)
  | n + 1, i, h => by
    have hil : i < l.length := by omega
    rw [List.drop_eq_getElem_cons hil, okPs]
    have hp := hs _ (List.getElem_mem hil)
    refine Ev.step (f := fun k => (line_Param_formed.f k l[i].f0 l[i].f1).bind fun t => if t = true then (if idxN l[i].f0 (l.take i) 0 ≥ 0 then some false else line_Formed.l0 k l (l.length : Int) ((i + 1 : Nat) : Int) nm l v) else some false) (fun k => by
      simp only [line_Formed.l0]
      rw [if_pos (by omega), if_pos (by omega), if_pos (by omega), rdP l i hil, wrapS i _ hil (by omega), if_pos (show (i : Int) ≤ (l.length : Int) by omega)]
      rfl) ?_
    refine Ev.bind (parL_f _ _ hp.1 hp.2) ?_
    have ih := formL_ev nm v l hl hs n (i + 1) (by omega)
    rw [List.take_succ_eq_append_getElem hil] at ih
    cases hc : parR l[i].f0 l[i].f1 with
    | false => exact Ev.congr (f := fun _ => some false) (fun k => by rw [if_neg (by simp)]) (Ev.now _)
    | true =>
      rw [Bool.true_and]
      have hi := idxN_any l[i].f0 (l.take i) 0
      cases ha : (l.take i).any (hasN l[i].f0) with
      | true =>
        rw [ha] at hi
        exact Ev.congr (f := fun _ => some false) (fun k => by rw [if_pos rfl, if_pos (of_decide_eq_true hi)]) (Ev.now _)
      | false =>
        rw [ha] at hi
        rw [Bool.not_false, Bool.true_and]
        exact Ev.congr (fun k => by rw [if_pos rfl, if_neg (of_decide_eq_false hi)]) ih
theorem formL (nm v : ByteArray) (l : List LP) (hn : nm.size ≤ 140737488351232) (hv : v.size ≤ 140737488351232) (hs : ∀ p ∈ l, ParB' p) : Ev (fun k => line_Formed.f k nm l v) (formR nm l v) := by
  have hno : Ev (fun k => line_Formed.j0 k true nm l v) false := Ev.step (f := fun _ => some false) (fun k => by simp only [line_Formed.j0]; rfl) (Ev.now _)
  refine Ev.bind (nameL nm hn) ?_
  unfold formR
  cases nameR nm with
  | false => exact Ev.congr (fun k => by rw [if_neg (by simp)]) hno
  | true =>
    by_cases h2 : l.length ≤ 60
    · rw [decide_eq_true h2]
      refine Ev.congr (f := fun k => (escape_Clean.f k v false).bind fun t => line_Formed.j0 k (t != 0) nm l v) (fun k => by rw [if_pos rfl, if_neg (by omega)]) ?_
      refine Ev.bind (escClean v false hv) ?_
      by_cases h3 : cleanR false v.data.toList = 0
      · rw [decide_eq_true h3, h3]
        have := formL_ev nm v l h2 hs l.length 0 (by omega)
        rw [List.drop_zero, List.take_zero] at this
        exact Ev.step (fun k => by simp only [line_Formed.j0]; rfl) this
      · rw [decide_eq_false h3]
        have e : (cleanR false v.data.toList != 0) = true := by simpa using h3
        rw [e]; exact hno
    · rw [decide_eq_false h2]
      exact Ev.congr (fun k => by rw [if_pos rfl, if_pos (by omega)]) hno
end Go.Proofs.YtdojmdbaiddkgaaGreatDoor.Pure
end
