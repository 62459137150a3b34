/- Texts of the proof of LineAgain, put together: Repl ReplL ReplN ReplB ReplO Param LPrint Print9 PForm. -/
import Derived.Test.YtknmbalhbecdhaaGreatDoorProg
import Derived.Below
import Derived.Deep.Draws
import Derived.Deep.AppendLies
import Derived.Maps.AppendAt
import Derived.OwnWalk
import Derived.Laws.BytesArg
import Derived.Laws.MakeOwn
import Derived.Laws.OwnMore
import Derived.Deep.OwnRows
import Derived.Tactics
import Derived.Lib.ConvBytes
import Derived.Laws.Slices
import Derived.WalkKit
import Derived.KernelRfl
import Derived.RowKit3
import Derived.Deep.LoopGhost
import Derived.Deep.QuietTactic
import Derived.BigQuiet
import Derived.WideLaws
import Derived.Deep.DeepCutAuto
import Derived.Deep.CutBlock
import Derived.Deep.RegionHeld3
import Derived.Laws.Rows
import Derived.Lib.AppendStr
import Derived.ArgAppend
import Derived.Laws.IdiomCopy
import Derived.OrdersHeld
import Derived.Laws.BitsLemmas
import Derived.RowKit
import Derived.Test.YtknmbalhbecdhaaGreatDoorWMore
import Derived.Shelf.Unicode.ValidAny
import Derived.Shelf.Strings.Builder1
import Derived.Shelf.Small.Utf8
import Derived.Shelf.Small.Strs
import Derived.Shelf.Strings.BuilderF
import Derived.Shelf.Strings.BuilderK
import Derived.Shelf.Strings.Search1
import Derived.Shelf.Strings.Search2
import Derived.Shelf.Strings.Search3
import Derived.Shelf.Strings.Count
import Derived.Shelf.LaysM
import Derived.Shelf.Strings.Shaped
import Derived.Shelf.Strings.Runes
import Derived.Shelf.Strings.IndexAny
import Derived.Shelf.Strings.AsciiSet
import Derived.Shelf.Strings.IndexAnyAll
import Derived.Shelf.Slices.Equal
import Derived.Shelf.Slices.Empties2
import Derived.WalkSpells
import Derived.Laws.Runes
import Derived.Laws.RangeAny
import Derived.Laws.RangeString
import Derived.Lib.IndexAny
import Derived.Lib.SpaceUEq
import Derived.Lib.RuneCount
import Derived.Lib.QuoteLoop
import Derived.Lib.Hide
import Derived.Lib.OthersKept
import Derived.Lib.DecodeN
import Derived.IntWalk
import Derived.Test.YtknmbalhbecdhaaGreatDoorWWords
import Derived.Test.YtknmbalhbecdhaaGreatDoorWLast
import Derived.Test.YtknmbalhbecdhaaGreatDoorWTab
import Derived.Test.YtknmbalhbecdhaaGreatDoorWQPut
import Derived.Test.YtknmbalhbecdhaaGreatDoorWApart
import Derived.Test.YtknmbalhbecdhaaGreatDoorWArr
import Derived.Test.YtknmbalhbecdhaaGreatDoorWZeros
import Derived.Test.YtknmbalhbecdhaaGreatDoorWFoot
import Derived.Test.YtknmbalhbecdhaaGreatDoorWKept
import Derived.Test.YtknmbalhbecdhaaGreatDoorWShare
import Derived.Test.YtknmbalhbecdhaaGreatDoorWN
import Derived.Test.YtknmbalhbecdhaaGreatDoorWRepsOne
import Derived.Test.YtknmbalhbecdhaaGreatDoorWInv
import Derived.Test.YtknmbalhbecdhaaGreatDoorWGuard
import Derived.Test.YtknmbalhbecdhaaGreatDoorWNEv
import Derived.Laws.CopyRow
import Derived.Laws.CopyOwn
import Derived.Deep.RegionWith
import Derived.Deep.WholeRow
import Derived.Outline
import Derived.Tactics2
import Derived.Defers
import Derived.Laws.Pointers
import Derived.Laws.LoneSync
import Derived.RegionTactic
import Derived.RegionCalls
import Derived.Laws.NewBlocks
import Derived.Laws.IdiomStrings
import Derived.Lib.IndexLaws
import Derived.Lib.ValidU
import Derived.Lib.TrimUEq
import Derived.Lib.ValidLaws
import Derived.Lib.MapLaws
import Derived.Lib.SmallJoins
import Derived.Test.YtknmbalhbecdhaaGreatDoorQLineAgainB
section
set_option linter.unusedVariables false
set_option linter.unusedSimpArgs false
namespace Go.Proofs.YtknmbalhbecdhaaGreatDoor.Print
open Go.RowKit Go.Proofs.YtknmbalhbecdhaaGreatDoorW.PrintWords Go.Proofs.YtknmbalhbecdhaaGreatDoorW.PrintLast Go.Proofs.YtknmbalhbecdhaaGreatDoorW.PrintMore
def subB (c : Nat) : Nat := if c = 94 then 94 else if c = 10 then 110 else 39
/-- The table of replacements, as build makes it. -/
structure RT (p : Nat) (w : World) : Prop where
  nils : ∀ c : Nat, c < 256 → c ≠ 94 → c ≠ 10 → c ≠ 34 → w.cell? ⟨p, c, none⟩ = some (.slice none 0 0)
  subs : ∀ c : Nat, c = 94 ∨ c = 10 ∨ c = 34 → ∃ q cap, w.cell? ⟨p, c, none⟩ = some (.slice (some ⟨q, 0, none⟩) 2 cap) ∧ 2 ≤ cap ∧ w.cell? ⟨q, 0, none⟩ = some (.int .u8 94) ∧ w.cell? ⟨q, 1, none⟩ = some (.int .u8 (subB c))
  list : ∃ t cap, w.cell? ⟨p, 256, none⟩ = some (.slice (some ⟨t, 0, none⟩) 3 cap) ∧ 3 ≤ cap ∧ w.cell? ⟨t, 0, none⟩ = some (.string ⟨#[34]⟩) ∧ w.cell? ⟨t, 1, none⟩ = some (.string ⟨#[10]⟩) ∧ w.cell? ⟨t, 2, none⟩ = some (.string ⟨#[94]⟩)
theorem cellLt {w : World} {a : Addr} {v : Value} (h : w.cell? a = some v) : a.block < w.heap.size := by
  rcases Nat.lt_or_ge a.block w.heap.size with h9 | h9
  · exact h9
  · simp [World.cell?, Array.getElem?_eq_none h9] at h
theorem RT.under {p : Nat} {w w' : World} (h : RT p w) (hb : Below w.heap.size w w') : RT p w' := by
  refine ⟨fun c h0 h1 h2 h3 => ?_, fun c hc => ?_, ?_⟩
  · have := h.nils c h0 h1 h2 h3; exact (hb.cell (cellLt this)).trans this
  · obtain ⟨q, cap, a1, a2, a3, a4⟩ := h.subs c hc
    exact ⟨q, cap, (hb.cell (cellLt a1)).trans a1, a2, (hb.cell (cellLt a3)).trans a3, (hb.cell (cellLt a4)).trans a4⟩
  · obtain ⟨t, cap, a1, a2, a3, a4, a5⟩ := h.list
    exact ⟨t, cap, (hb.cell (cellLt a1)).trans a1, a2, (hb.cell (cellLt a3)).trans a3, (hb.cell (cellLt a4)).trans a4, (hb.cell (cellLt a5)).trans a5⟩
def isS (c : UInt8) : Bool := c == 94 || c == 10 || c == 34
theorem parB_len (c : UInt8) : (parB c).length = if isS c = true then 2 else 1 := by
  unfold parB isS
  by_cases h1 : c = 94
  · subst h1; rfl
  by_cases h2 : c = 10
  · subst h2; rfl
  by_cases h3 : c = 34
  · subst h3; rfl
  rw [if_neg h1, if_neg h2, if_neg h3, if_neg (by simp [h1, h2, h3])]; rfl
theorem parT_snoc (l : List UInt8) (c : UInt8) : parT (l ++ [c]) = parT l ++ parB c := by simp [parT]
theorem parB_no (c : UInt8) (h : isS c = false) : parB c = [c] := by
  unfold isS at h
  simp only [Bool.or_eq_false_iff, beq_eq_false_iff_ne] at h
  unfold parB
  rw [if_neg h.1.1, if_neg h.1.2, if_neg h.2]
theorem parT_no : ∀ (l : List UInt8), l.any isS = false → parT l = l
  | [], _ => rfl
  | c :: t, h => by
    rw [List.any_cons, Bool.or_eq_false_iff] at h
    rw [parT_cons, parB_no c h.1, parT_no t h.2]; rfl
theorem ba_of (s : ByteArray) : (⟨s.data.toList.toArray⟩ : ByteArray) = s := by cases s; simp
theorem i8ex : (Tryz.prog.info? 5).map (fun i => (i.zero, i.size, i.bytes)) = some (some (.int .u8 0), 1, 1) := by kernel_rfl
structure I8 (i : TypeInfo) : Prop where
  hi : Tryz.prog.info? 5 = some i
  hz : i.zero = some (.int .u8 0)
  hs : i.size = 1
  hb : i.bytes = 1
theorem i8 : ∃ i, I8 i := by
  obtain ⟨i, hi, h⟩ := Option.map_eq_some_iff.1 i8ex
  simp only [Prod.mk.injEq] at h
  exact ⟨i, hi, h.1, h.2.1, h.2.2⟩
theorem cell_blk {w : World} {g : Nat} {cs : Array Value} {t : TypeId} {fr : Nat × Nat} (h : w.heap[g]? = some (.cells cs t fr)) (j : Nat) : w.cell? ⟨g, j, none⟩ = cs[j]? := by simp [World.cell?, h]
theorem froz_blk {w : World} {g : Nat} {cs : Array Value} {t : TypeId} (h : w.heap[g]? = some (.cells cs t (0, 0))) (j : Nat) : w.frozen? ⟨g, j, none⟩ = false := by simp [World.frozen?, h]
theorem row_put (cur : Array Value) (L M : List UInt8) (n : Nat) (hsz : cur.size = n) (hL : ∀ x, x < L.length → cur[x]? = some (.int .u8 (((L.getD x 0).toNat : Nat) : Int))) (hfit : L.length + M.length ≤ n) :
    (cur.toList.take L.length ++ M.map (fun b => Value.int .u8 ((b.toNat : Nat) : Int)) ++ cur.toList.drop (L.length + M.length)).toArray.size = n ∧
    ∀ x, x < (L ++ M).length → (cur.toList.take L.length ++ M.map (fun b => Value.int .u8 ((b.toNat : Nat) : Int)) ++ cur.toList.drop (L.length + M.length)).toArray[x]? = some (.int .u8 ((((L ++ M).getD x 0).toNat : Nat) : Int)) := by
  have hl : cur.toList.length = n := by rw [Array.length_toList]; exact hsz
  refine ⟨by rw [List.size_toArray]; simp only [List.length_append, List.length_take, List.length_map, List.length_drop]; omega, fun x hx => ?_⟩
  rw [List.length_append] at hx
  rw [List.getElem?_toArray, List.append_assoc]
  by_cases h : x < L.length
  · rw [List.getElem?_append_left (by rw [List.length_take]; omega), List.getElem?_take_of_lt h, Array.getElem?_toList, hL x h, List.getD_eq_getElem?_getD, List.getD_eq_getElem?_getD, List.getElem?_append_left h]
  · have h2 : (cur.toList.take L.length).length = L.length := by rw [List.length_take]; omega
    have hm : x - L.length < M.length := by omega
    rw [List.getElem?_append_right (by omega), h2, List.getElem?_append_left (by rw [List.length_map]; exact hm), List.getElem?_map, List.getD_eq_getElem?_getD, List.getElem?_append_right (by omega), List.getElem?_eq_getElem hm]
    rfl
theorem row_set (cur : Array Value) (L : List UInt8) (c : UInt8) (n : Nat) (hsz : cur.size = n) (hL : ∀ x, x < L.length → cur[x]? = some (.int .u8 (((L.getD x 0).toNat : Nat) : Int))) (hfit : L.length + 1 ≤ n) :
    (cur.setIfInBounds L.length (.int .u8 ((c.toNat : Nat) : Int))).size = n ∧ ∀ x, x < (L ++ [c]).length → (cur.setIfInBounds L.length (.int .u8 ((c.toNat : Nat) : Int)))[x]? = some (.int .u8 ((((L ++ [c]).getD x 0).toNat : Nat) : Int)) := by
  refine ⟨by rw [Array.size_setIfInBounds]; exact hsz, fun x hx => ?_⟩
  rw [List.length_append, List.length_cons, List.length_nil] at hx
  by_cases h : x < L.length
  · rw [Array.getElem?_setIfInBounds_ne (by omega), hL x h, List.getD_eq_getElem?_getD, List.getD_eq_getElem?_getD, List.getElem?_append_left h]
  · obtain rfl : x = L.length := by omega
    rw [Array.getElem?_setIfInBounds_self_of_lt (by omega), List.getD_eq_getElem?_getD, List.getElem?_append_right (Nat.le_refl _), Nat.sub_self]
    rfl
theorem blkSet {w : World} {g : Nat} {t : TypeId} {cs : Array Value} (h : w.heap[g]? = some (.cells cs t (0, 0))) (i : Nat) (u : Value) : (w.setCell ⟨g, i, none⟩ u).heap[g]? = some (.cells (cs.setIfInBounds i u) t (0, 0)) := by
  simp [World.setCell, Array.getElem?_modify, h]
theorem neq_nil (w : World) : (binOp .neq 46 (.slice none 0 0) (.slice none 0 0)).run Tryz.prog w = .ok (.bool false) w := by kernel_rfl
theorem neq_some (q : Addr) (n c : Nat) (w : World) : (binOp .neq 46 (.slice (some q) n c) (.slice none 0 0)).run Tryz.prog w = .ok (.bool true) w := by kernel_rfl
set_option maxHeartbeats 4000000 in
set_option maxRecDepth 100000 in
theorem bsr_short (p : Nat) (s : ByteArray) (w : World) (hT : RT p w) (hs : s.size < 24) :
    Calls Tryz.prog 130 #[.pointer (some ⟨p, 0, none⟩), .string s] w fun e w' => e = .returned (.string ⟨(parT s.data.toList).toArray⟩) ∧ Below w.heap.size w w' := by
  have HT := Aside0.mk hT
  obtain ⟨t, cap, a1, a2, a3, a4, a5⟩ := hT.list
  clear hT
  have hd : decide (24 ≤ s.size) = false := decide_eq_false (by omega)
  go_enter Tryz.func130, Tryz.ntmps130
  go_wp2
  go_loopg [5, 6, 10] s.size (fun g v5 v6 v10 wr => ∃ i : Nat, v10 = .int .i64 i ∧ i ≤ s.size ∧ Aside0 (s.size ≤ i + g) ∧ v5 = .int .i64 (((parT (s.data.toList.take i)).length + (s.size - i) : Nat) : Int) ∧ v6 = .bool ((s.data.toList.take i).any isS) ∧ wr = w)
  case atStart => exact ⟨0, rfl, by omega, ⟨by omega⟩, by simp [parT], by simp, rfl⟩
  case round =>
    obtain ⟨i, rfl, hi, HI, rfl, rfl, rfl⟩ := hrel
    by_cases hlt : i < s.size
    · have hd2 : decide (i < s.size) = true := decide_eq_true hlt
      obtain ⟨c, hc⟩ : ∃ c : UInt8, s[i] = c := ⟨_, rfl⟩
      have hc2 : c.toNat < 256 := c.toNat_lt
      have HTk : Aside0 (s.data.toList.take (i + 1) = s.data.toList.take i ++ [c]) := ⟨by
        rw [List.take_succ_eq_append_getElem (by simpa using hlt)]; rw [← hc]; rfl⟩
      have HPL := Aside0.mk (parB_len c)
      cases gk with
      | zero => exfalso; have := HI.out; omega
      | succ g =>
      by_cases hsp : isS c = true
      · have hsc : c.toNat = 94 ∨ c.toNat = 10 ∨ c.toNat = 34 := by
          unfold isS at hsp
          rw [Bool.or_eq_true, Bool.or_eq_true, beq_iff_eq, beq_iff_eq, beq_iff_eq] at hsp
          rcases hsp with (h | h) | h
          · rw [h]; exact .inl rfl
          · rw [h]; exact .inr (.inl rfl)
          · rw [h]; exact .inr (.inr rfl)
        obtain ⟨q, qc, b1, b2, b3, b4⟩ := HT.out.subs c.toNat hsc
        have nq := neq_some
        go_wp2
        go_roundg g
        case measure => have := HI.out; omega
        case rel =>
          have h1 := parT_le (s.data.toList.take i)
          have h2 : (s.data.toList.take i).length = i := by rw [List.length_take, Array.length_toList]; have e : s.data.size = s.size := rfl; omega
          rw [h2] at h1
          refine ⟨i + 1, by first | rfl | (go_num; done) | (congr 1; omega), by omega, ⟨by have := HI.out; omega⟩, ?_, ?_, rfl⟩
          · rw [HTk.out, parT_snoc, List.length_append, HPL.out, if_pos hsp]; congr 1; unfold wrap64; omega
          · rw [HTk.out, List.any_append, List.any_cons, hsp]; simp
      · have hcell : wr.cell? ⟨p, c.toNat, none⟩ = some (.slice none 0 0) := by
          rw [Bool.not_eq_true] at hsp
          unfold isS at hsp
          simp only [Bool.or_eq_false_iff, beq_eq_false_iff_ne] at hsp
          have ne : ∀ n : Nat, n < 256 → c ≠ n.toUInt8 → c.toNat ≠ n := fun n hn h e => h (by apply UInt8.toNat_inj.1; rw [e]; simp; omega)
          exact HT.out.nils c.toNat hc2 (ne 94 (by omega) hsp.1.1) (ne 10 (by omega) hsp.1.2) (ne 34 (by omega) hsp.2)
        have nq := neq_nil
        go_wp2
        go_roundg g
        case measure => have := HI.out; omega
        case rel =>
          rw [Bool.not_eq_true] at hsp
          refine ⟨i + 1, by first | rfl | (go_num; done) | (congr 1; omega), by omega, ⟨by have := HI.out; omega⟩, ?_, ?_, rfl⟩
          · rw [HTk.out, parT_snoc, List.length_append, HPL.out, if_neg (by rw [hsp]; simp)]; congr 1; omega
          · rw [HTk.out, List.any_append, List.any_cons, hsp]; simp
    · have hd2 : decide (i < s.size) = false := decide_eq_false hlt
      have hil : i = s.size := by omega
      subst hil
      have htk : s.data.toList.take s.size = s.data.toList := List.take_of_length_le (by simp)
      rw [htk, Nat.sub_self, Nat.add_zero]
      by_cases hany : s.data.toList.any isS = true
      · rw [hany]
        have hpl := parT_le s.data.toList
        have e : s.data.toList.length = s.size := by simp
        rw [e] at hpl
        have HPA : Aside0 (∃ n, (parT s.data.toList).length = n ∧ n ≤ 100) := ⟨⟨_, rfl, by omega⟩⟩
        obtain ⟨n, hn, hn2⟩ := HPA.out
        rw [hn]
        clear hpl
        obtain ⟨ti, I⟩ := i8
        have hmk := run_make (P := Tryz.prog) wr 46 5 ti (.int .u8 0) Tryz.underlying46 I.hi I.hz .i64 .i64 (n : Int) (n : Int) (by omega) (by omega) (by rw [I.hb]; omega) (by omega)
        rw [Int.toNat_natCast, I.hs, Nat.mul_one] at hmk
        go_wp2
        have HN := Aside0.mk hn
        clear hn hmk htk hany HI HPA
        have hal := (Below.refl wr.heap.size wr).alloc (Nat.le_refl _) (.cells (madeCells #[.int .u8 0] n) 5)
        have hblk : (wr.alloc (.cells (madeCells #[.int .u8 0] n) 5)).heap[wr.heap.size]? = some (.cells (madeCells #[.int .u8 0] n) 5 (0, 0)) := by simp only [World.alloc, Array.getElem?_push_size]
        have HBL := Aside0.mk hblk
        have HAL := Aside0.mk hal
        clear hblk hal
        obtain ⟨G, hGd⟩ : ∃ G, G = wr.heap.size := ⟨_, rfl⟩
        rw [← hGd] at HBL ⊢
        have HGE := Aside0.mk hGd
        clear hGd
        go_loopg [13, 14] s.size (fun g v13 v14 wr2 => ∃ (k : Nat) (cur : Array Value), v14 = .int .i64 k ∧ v13 = .int .i64 ((parT (s.data.toList.take k)).length : Nat) ∧ k ≤ s.size ∧ Aside0 (s.size ≤ k + g) ∧ Aside0 (wr2.heap[G]? = some (.cells cur 5 (0, 0)) ∧ cur.size = n ∧ ∀ x, x < (parT (s.data.toList.take k)).length → cur[x]? = some (.int .u8 ((((parT (s.data.toList.take k)).getD x 0).toNat : Nat) : Int))) ∧ Aside0 (Below wr.heap.size wr wr2))
        case atStart => exact ⟨0, _, rfl, by simp [parT], by omega, ⟨by omega⟩, ⟨HBL.out, by simp [madeCells], fun x hx => by simp [parT] at hx⟩, HAL⟩
        case round =>
          obtain ⟨k, cur, rfl, rfl, hk, HK, HC, HB⟩ := hrel
          by_cases hlt2 : k < s.size
          · have hd3 : decide (k < s.size) = true := decide_eq_true hlt2
            obtain ⟨c, hc⟩ : ∃ c : UInt8, s[k] = c := ⟨_, rfl⟩
            have hc2 : c.toNat < 256 := c.toNat_lt
            have HTk : Aside0 (s.data.toList.take (k + 1) = s.data.toList.take k ++ [c]) := ⟨by
              rw [List.take_succ_eq_append_getElem (by simpa using hlt2)]; rw [← hc]; rfl⟩
            have HTn := HT.out.under HB.out
            have HLn : Aside0 ((parT (s.data.toList.take (k + 1))).length ≤ n) := ⟨by
              have h1 : parT s.data.toList = parT (s.data.toList.take (k + 1)) ++ parT (s.data.toList.drop (k + 1)) := by
                unfold parT; rw [← List.flatMap_append, List.take_append_drop]
              rw [← HN.out, h1, List.length_append]; omega⟩
            have hLn := HLn.out
            rw [HTk.out, parT_snoc, List.length_append, parB_len] at hLn
            cases gk with
            | zero => exfalso; have := HK.out; omega
            | succ g =>
            obtain ⟨J, hJ⟩ : ∃ J, (parT (s.data.toList.take k)).length = J := ⟨_, rfl⟩
            rw [hJ] at hLn HC ⊢
            have HJ := Aside0.mk hJ
            clear hJ
            by_cases hsp : isS c = true
            · have hsc : c.toNat = 94 ∨ c.toNat = 10 ∨ c.toNat = 34 := by
                unfold isS at hsp
                rw [Bool.or_eq_true, Bool.or_eq_true, beq_iff_eq, beq_iff_eq, beq_iff_eq] at hsp
                rcases hsp with (h | h) | h
                · rw [h]; exact .inl rfl
                · rw [h]; exact .inr (.inl rfl)
                · rw [h]; exact .inr (.inr rfl)
              obtain ⟨q, qc, b1, b2, b3, b4⟩ := HTn.subs c.toNat hsc
              have nq := neq_some
              rw [if_pos hsp] at hLn
              have hJn : decide (J ≤ n) = true := decide_eq_true (by omega)
              obtain ⟨ti2, I2⟩ := i8
              have hcp := run_copy_row (P := Tryz.prog) wr.drew 46 46 3 5 G J (n - J) (n - J) ⟨q, 0, none⟩ 2 qc cur 5 [.int .u8 94, .int .u8 (subB c.toNat)] Tryz.underlying46 (by rw [I2.hi]; simp [I2.hs]) HC.out.1 (by simp only [List.length_cons, List.length_nil]; show 2 = min 2 (n - J); omega)
                (fun j v hj => by
                  have hjl : j < 2 := (List.getElem?_eq_some_iff.1 hj).1
                  have hj2 : j = 0 ∨ j = 1 := by omega
                  rcases hj2 with rfl | rfl
                  · have : v = .int .u8 94 := by simpa using hj.symm
                    rw [this, World.cell?_drew]; exact b3
                  · have : v = .int .u8 (subB c.toNat) := by simpa using hj.symm
                    rw [this, World.cell?_drew]; exact b4)
                (by have := HC.out.2.1; simp only [List.length_cons, List.length_nil]; omega) (by intro v hv; simp only [List.mem_cons, List.not_mem_nil, or_false] at hv; rcases hv with rfl | rfl <;> rfl)
              simp only [List.length_cons, List.length_nil] at hcp
              have HC3 := HC.out
              have hpb : ([.int .u8 94, .int .u8 (subB c.toNat)] : List Value) = (parB c).map (fun b => Value.int .u8 ((b.toNat : Nat) : Int)) := by
                rcases hsc with h | h | h
                · have hc9 : c = 94 := by apply UInt8.toNat_inj.1; rw [h]; rfl
                  subst hc9; rfl
                · have hc9 : c = 10 := by apply UInt8.toNat_inj.1; rw [h]; rfl
                  subst hc9; rfl
                · have hc9 : c = 34 := by apply UInt8.toNat_inj.1; rw [h]; rfl
                  subst hc9; rfl
              have HPB := Aside0.mk hpb
              clear hpb hsc
              go_wp2
              go_region
              go_wp2
              go_roundg g
              case measure => have := HK.out; omega
              case rel =>
                have hlen2 : (parB c).length = 2 := by rw [parB_len, if_pos hsp]
                have hJ2 := HJ.out
                have hrp := row_put cur (parT (s.data.toList.take k)) (parB c) n HC3.2.1 (fun x hx => HC3.2.2 x (by rw [← hJ2]; exact hx)) (by rw [hJ2, hlen2]; omega)
                rw [hJ2, hlen2, ← HPB.out] at hrp
                simp only [List.append_assoc, List.cons_append, List.nil_append] at hrp
                refine ⟨k + 1, _, by first | rfl | (go_num; done) | (congr 1; omega), by rw [HTk.out, parT_snoc, List.length_append, hJ2, hlen2]; rfl, by omega, ⟨by have := HK.out; omega⟩, ⟨setRow_heap _ _ _ _ _ _ HC3.1, hrp.1, fun x hx => ?_⟩, ⟨below_setRow (below_drew HB.out) (by have := HGE.out; omega) _⟩⟩
                rw [HTk.out, parT_snoc] at hx ⊢
                exact hrp.2 x hx
            · have hcell : wr.cell? ⟨p, c.toNat, none⟩ = some (.slice none 0 0) := by
                rw [Bool.not_eq_true] at hsp
                unfold isS at hsp
                simp only [Bool.or_eq_false_iff, beq_eq_false_iff_ne] at hsp
                have ne : ∀ n : Nat, n < 256 → c ≠ n.toUInt8 → c.toNat ≠ n := fun n hn h e => h (by apply UInt8.toNat_inj.1; rw [e]; simp; omega)
                exact HTn.nils c.toNat hc2 (ne 94 (by omega) hsp.1.1) (ne 10 (by omega) hsp.1.2) (ne 34 (by omega) hsp.2)
              have nq := neq_nil
              rw [if_neg hsp] at hLn
              have hJn : decide (J < n) = true := decide_eq_true (by omega)
              have hold : wr.cell? ⟨G, J, none⟩ = some (cur[J]'(by have := HC.out.2.1; omega)) := by
                rw [cell_blk HC.out.1, Array.getElem?_eq_getElem]
              have hfz := froz_blk HC.out.1 J
              go_wp2
              go_roundg g
              case measure => have := HK.out; omega
              case rel =>
                have hlen1 : parB c = [c] := parB_no c (by rw [Bool.not_eq_true] at hsp; exact hsp)
                have hJ2 := HJ.out
                have hrs := row_set cur (parT (s.data.toList.take k)) c n HC.out.2.1 (fun x hx => HC.out.2.2 x (by rw [← hJ2]; exact hx)) (by rw [hJ2]; omega)
                rw [hJ2] at hrs
                refine ⟨k + 1, _, by first | rfl | (go_num; done) | (congr 1; omega), by rw [HTk.out, parT_snoc, hlen1, List.length_append, hJ2]; rfl, by omega, ⟨by have := HK.out; omega⟩, ⟨blkSet HC.out.1 _ _, hrs.1, fun x hx => ?_⟩, ⟨Below.setCell HB.out (by have := HGE.out; show _ ≤ G; omega) _⟩⟩
                rw [HTk.out, parT_snoc, hlen1] at hx ⊢
                exact hrs.2 x hx
          · have hd3 : decide (k < s.size) = false := decide_eq_false hlt2
            have hks : k = s.size := by omega
            subst hks
            have htk2 : s.data.toList.take s.size = s.data.toList := List.take_of_length_le (by simp)
            rw [htk2] at HC ⊢
            have hcv := run_convert_bytes_back (P := Tryz.prog) wr 46 9 5 ⟨G, 0, none⟩ n (parT s.data.toList) Tryz.underlying46 Tryz.underlying5 Tryz.underlying9 (fun j hj => by
              have ha : (⟨G, 0, none⟩ : Addr).add j = ⟨G, j, none⟩ := by
                unfold Addr.add
                split
                · rename_i h8; subst h8; rfl
                · simp
              rw [ha, cell_blk HC.out.1, HC.out.2.2 j hj, List.getD_eq_getElem?_getD, List.getElem?_eq_getElem hj]; rfl)
            rw [HN.out] at hcv
            go_wp2
            go_ret
            exact ⟨rfl, HB.out⟩
      · rw [Bool.not_eq_true] at hany
        rw [hany]
        have hno := parT_no _ hany
        go_wp2
        go_ret
        exact ⟨by rw [hno, ba_of]; rfl, Below.refl _ _⟩
end Go.Proofs.YtknmbalhbecdhaaGreatDoor.Print
end
section
set_option linter.unusedVariables false
set_option linter.unusedSimpArgs false
namespace Go.Proofs.YtknmbalhbecdhaaGreatDoor.Print
open Go.RowKit Go.Proofs.YtknmbalhbecdhaaGreatDoorW.PrintWords Go.Proofs.YtknmbalhbecdhaaGreatDoorW.PrintLast Go.Proofs.YtknmbalhbecdhaaGreatDoorW.PrintMore
def seqC : Nat → UInt8
  | 0 => 34
  | 1 => 10
  | _ => 94
def cntS : Nat → List UInt8 → Nat
  | 0, _ => 0
  | i + 1, l => cntS i l + Lib.countByte l (seqC i)
theorem cntS_le : ∀ (i : Nat) (l : List UInt8), cntS i l ≤ i * l.length
  | 0, l => by simp [cntS]
  | i + 1, l => by
    have h1 := cntS_le i l
    have h2 : Lib.countByte l (seqC i) ≤ l.length := List.count_le_length
    rw [cntS, Nat.add_mul, Nat.one_mul]; omega
theorem cnt_cons (c : UInt8) (t : List UInt8) (x : UInt8) : Lib.countByte (c :: t) x = Lib.countByte t x + if c = x then 1 else 0 := by
  unfold Lib.countByte
  rw [List.count_cons]
  by_cases h : c = x
  · simp [h]
  · simp [h]
theorem cnt3 (l : List UInt8) : cntS 3 l = Lib.countByte l 34 + Lib.countByte l 10 + Lib.countByte l 94 := by
  simp only [cntS, seqC]; omega
theorem cnt3_cons (c : UInt8) (t : List UInt8) : cntS 3 (c :: t) = cntS 3 t + if isS c = true then 1 else 0 := by
  rw [cnt3, cnt3, cnt_cons, cnt_cons, cnt_cons]
  unfold isS
  by_cases h1 : c = 94
  · subst h1; simp; omega
  by_cases h2 : c = 10
  · subst h2; simp; omega
  by_cases h3 : c = 34
  · subst h3; simp; omega
  simp [h1, h2, h3]
theorem par_cnt : ∀ (l : List UInt8), (parT l).length = l.length + cntS 3 l
  | [] => by rw [cnt3]; rfl
  | c :: t => by
    rw [parT_cons, List.length_append, par_cnt t, parB_len, cnt3_cons, List.length_cons]
    split <;> omega
theorem any_cnt : ∀ (l : List UInt8), l.any isS = decide (0 < cntS 3 l)
  | [] => by rw [cnt3]; rfl
  | c :: t => by
    rw [List.any_cons, any_cnt t, cnt3_cons]
    cases h : isS c
    · simp
    · simp
set_option maxHeartbeats 4000000 in
set_option maxRecDepth 100000 in
theorem bsr_long (p : Nat) (s : ByteArray) (w : World) (hT : RT p w) (hs24 : ¬ s.size < 24) (hs : s.size ≤ 2000000000) :
    Calls Tryz.prog 130 #[.pointer (some ⟨p, 0, none⟩), .string s] w fun e w' => e = .returned (.string ⟨(parT s.data.toList).toArray⟩) ∧ Below w.heap.size w w' := by
  have HT := Aside0.mk hT
  obtain ⟨t, cap, a1, a2, a3, a4, a5⟩ := hT.list
  clear hT
  have hd : decide (24 ≤ s.size) = true := decide_eq_true (by omega)
  have hdI : decide ((24 : Int) ≤ (s.size : Int)) = true := decide_eq_true (by omega)
  go_enter Tryz.func130, Tryz.ntmps130
  go_wp2
  go_loopg [5, 6, 32] 3 (fun g v5 v6 v32 wr => ∃ (i : Nat) (N : Int) (B : Bool), v32 = .int .i64 i ∧ i ≤ 3 ∧ Aside0 (3 ≤ i + g) ∧ v5 = .int .i64 N ∧ v6 = .bool B ∧ Aside0 (N = ((s.size + cntS i s.data.toList : Nat) : Int)) ∧ Aside0 (B = decide (0 < cntS i s.data.toList)) ∧ Aside0 (Below w.heap.size w wr))
  case atStart => exact ⟨0, _, _, rfl, by omega, ⟨by omega⟩, rfl, rfl, ⟨by simp [cntS]⟩, ⟨by simp [cntS]⟩, ⟨Below.refl _ _⟩⟩
  case round =>
    obtain ⟨i, N, B, rfl, hi, HI, rfl, rfl, HNN, HBB, HW⟩ := hrel
    have a1 := (HW.out.cell (cellLt a1)).trans a1
    have a3 := (HW.out.cell (cellLt a3)).trans a3
    have a4 := (HW.out.cell (cellLt a4)).trans a4
    have a5 := (HW.out.cell (cellLt a5)).trans a5
    have HT := Aside0.mk (HT.out.under HW.out)
    by_cases hlt : i < 3
    · cases gk with
      | zero => exfalso; have := HI.out; omega
      | succ g =>
      have nq := neq_some
      have e0 : s.data.toList.length = s.size := by simp
      have hd2 : decide (i < 3) = true := decide_eq_true hlt
      have hcell : wr.cell? ⟨t, i, none⟩ = some (.string ⟨#[seqC i]⟩) := by
        have hi3 : i = 0 ∨ i = 1 ∨ i = 2 := by omega
        rcases hi3 with rfl | rfl | rfl
        · exact a3
        · exact a4
        · exact a5
      have hsc : (seqC i).toNat = 94 ∨ (seqC i).toNat = 10 ∨ (seqC i).toNat = 34 := by
        have hi3 : i = 0 ∨ i = 1 ∨ i = 2 := by omega
        rcases hi3 with rfl | rfl | rfl
        · exact .inr (.inr rfl)
        · exact .inr (.inl rfl)
        · exact .inl rfl
      obtain ⟨q, qc, b1, b2, b3, b4⟩ := HT.out.subs (seqC i).toNat hsc
      have HS : Aside0 (cntS (i + 1) s.data.toList = cntS i s.data.toList + Lib.countByte s.data.toList (seqC i)) := ⟨rfl⟩
      have hle1 := cntS_le (i + 1) s.data.toList
      have hle0 := cntS_le i s.data.toList
      rw [HS.out] at hle1
      have h3 : i ≤ 2 := by omega
      obtain ⟨C, hCd⟩ : ∃ C, Lib.countByte s.data.toList (seqC i) = C := ⟨_, rfl⟩
      rw [hCd] at HS hle1
      have HCd := Aside0.mk hCd
      clear hCd
      obtain ⟨D, hDd⟩ : ∃ D, cntS i s.data.toList = D := ⟨_, rfl⟩
      rw [hDd] at HS hle1 hle0 HNN HBB
      clear hDd
      have hle3 : D + C ≤ 3 * s.size := Nat.le_trans hle1 (by rw [e0]; exact Nat.mul_le_mul_right _ (by omega))
      have hx0 : (⟨#[seqC i]⟩ : ByteArray)[0]'(by show 0 < 1; omega) = seqC i := rfl
      have h256 : (seqC i).toNat < 256 := (seqC i).toNat_lt
      have hd256 : decide ((seqC i).toNat < 256) = true := decide_eq_true h256
      clear a3 a4 a5 hsc
      by_cases hC0 : C = 0
      · subst hC0
        have hb : (((0 : Nat) : Int) != 0) = false := rfl
        go_wp2_with (go_at_call 132; refine (Tryz.strings_Count_one _ _ _).mono ?_; rintro e w' ⟨rfl, hw⟩; rw [hw, HCd.out]; clear hw)
        go_roundg g
        case measure => have := HI.out; omega
        case rel => exact ⟨i + 1, _, _, by first | rfl | (go_num; done) | (congr 1; omega), by omega, ⟨by have := HI.out; omega⟩, rfl, rfl, ⟨by rw [HS.out, HNN.out]; rfl⟩, ⟨by rw [HS.out, HBB.out, Nat.add_zero]⟩, HW⟩
      · have hb : (((C : Nat) : Int) != 0) = true := bne_iff_ne.2 (by omega)
        go_wp2_with (go_at_call 132; refine (Tryz.strings_Count_one _ _ _).mono ?_; rintro e w' ⟨rfl, hw⟩; rw [hw, HCd.out]; clear hw)
        go_region
        go_wp2
        go_roundg g
        case measure => have := HI.out; omega
        case rel => exact ⟨i + 1, _, _, by first | rfl | (go_num; done) | (congr 1; omega), by omega, ⟨by have := HI.out; omega⟩, rfl, rfl, ⟨by rw [HS.out]; have := HNN.out; first | omega | (unfold wrap64; omega) | (simp only [wrap64]; omega)⟩, ⟨by rw [HS.out, decide_eq_true (by omega)]⟩, ⟨below_drew HW.out⟩⟩
    · have hi3 : i = 3 := by omega
      subst hi3
      have hcn := par_cnt s.data.toList
      have hcy := any_cnt s.data.toList
      have e : s.data.toList.length = s.size := by simp
      rw [e] at hcn
      have hN := HNN.out
      have hB := HBB.out
      rw [← hcn] at hN
      rw [← hcy] at hB
      subst hN
      subst hB
      clear HNN HBB
      by_cases hany : s.data.toList.any isS = true
      · rw [hany]
        have hpl := parT_le s.data.toList
        have e : s.data.toList.length = s.size := by simp
        rw [e] at hpl
        have HPA : Aside0 (∃ n, (parT s.data.toList).length = n ∧ n ≤ 4000000000) := ⟨⟨_, rfl, by omega⟩⟩
        obtain ⟨n, hn, hn2⟩ := HPA.out
        rw [hn]
        clear hpl
        obtain ⟨ti, I⟩ := i8
        have hmk := run_make (P := Tryz.prog) wr 46 5 ti (.int .u8 0) Tryz.underlying46 I.hi I.hz .i64 .i64 (n : Int) (n : Int) (by omega) (by omega) (by rw [I.hb]; omega) (by omega)
        rw [Int.toNat_natCast, I.hs, Nat.mul_one] at hmk
        go_wp2
        have HN := Aside0.mk hn
        clear hn hmk hany HI HPA hcn hcy
        have hal := (Below.refl wr.heap.size wr).alloc (Nat.le_refl _) (.cells (madeCells #[.int .u8 0] n) 5)
        have hblk : (wr.alloc (.cells (madeCells #[.int .u8 0] n) 5)).heap[wr.heap.size]? = some (.cells (madeCells #[.int .u8 0] n) 5 (0, 0)) := by simp only [World.alloc, Array.getElem?_push_size]
        have HBL := Aside0.mk hblk
        have HAL := Aside0.mk hal
        clear hblk hal
        obtain ⟨G, hGd⟩ : ∃ G, G = wr.heap.size := ⟨_, rfl⟩
        rw [← hGd] at HBL ⊢
        have HGE := Aside0.mk hGd
        clear hGd
        go_loopg [13, 14] s.size (fun g v13 v14 wr2 => ∃ (k : Nat) (cur : Array Value), v14 = .int .i64 k ∧ v13 = .int .i64 ((parT (s.data.toList.take k)).length : Nat) ∧ k ≤ s.size ∧ Aside0 (s.size ≤ k + g) ∧ Aside0 (wr2.heap[G]? = some (.cells cur 5 (0, 0)) ∧ cur.size = n ∧ ∀ x, x < (parT (s.data.toList.take k)).length → cur[x]? = some (.int .u8 ((((parT (s.data.toList.take k)).getD x 0).toNat : Nat) : Int))) ∧ Aside0 (Below wr.heap.size wr wr2))
        case atStart => exact ⟨0, _, rfl, by simp [parT], by omega, ⟨by omega⟩, ⟨HBL.out, by simp [madeCells], fun x hx => by simp [parT] at hx⟩, HAL⟩
        case round =>
          obtain ⟨k, cur, rfl, rfl, hk, HK, HC, HB⟩ := hrel
          by_cases hlt2 : k < s.size
          · have hd3 : decide (k < s.size) = true := decide_eq_true hlt2
            obtain ⟨c, hc⟩ : ∃ c : UInt8, s[k] = c := ⟨_, rfl⟩
            have hc2 : c.toNat < 256 := c.toNat_lt
            have HTk : Aside0 (s.data.toList.take (k + 1) = s.data.toList.take k ++ [c]) := ⟨by
              rw [List.take_succ_eq_append_getElem (by simpa using hlt2)]; rw [← hc]; rfl⟩
            have HTn := HT.out.under HB.out
            have HLn : Aside0 ((parT (s.data.toList.take (k + 1))).length ≤ n) := ⟨by
              have h1 : parT s.data.toList = parT (s.data.toList.take (k + 1)) ++ parT (s.data.toList.drop (k + 1)) := by
                unfold parT; rw [← List.flatMap_append, List.take_append_drop]
              rw [← HN.out, h1, List.length_append]; omega⟩
            have hLn := HLn.out
            rw [HTk.out, parT_snoc, List.length_append, parB_len] at hLn
            cases gk with
            | zero => exfalso; have := HK.out; omega
            | succ g =>
            obtain ⟨J, hJ⟩ : ∃ J, (parT (s.data.toList.take k)).length = J := ⟨_, rfl⟩
            rw [hJ] at hLn HC ⊢
            have HJ := Aside0.mk hJ
            clear hJ
            by_cases hsp : isS c = true
            · have hsc : c.toNat = 94 ∨ c.toNat = 10 ∨ c.toNat = 34 := by
                unfold isS at hsp
                rw [Bool.or_eq_true, Bool.or_eq_true, beq_iff_eq, beq_iff_eq, beq_iff_eq] at hsp
                rcases hsp with (h | h) | h
                · rw [h]; exact .inl rfl
                · rw [h]; exact .inr (.inl rfl)
                · rw [h]; exact .inr (.inr rfl)
              obtain ⟨q, qc, b1, b2, b3, b4⟩ := HTn.subs c.toNat hsc
              have nq := neq_some
              rw [if_pos hsp] at hLn
              have hJn : decide (J ≤ n) = true := decide_eq_true (by omega)
              obtain ⟨ti2, I2⟩ := i8
              have hcp := run_copy_row (P := Tryz.prog) wr.drew 46 46 3 5 G J (n - J) (n - J) ⟨q, 0, none⟩ 2 qc cur 5 [.int .u8 94, .int .u8 (subB c.toNat)] Tryz.underlying46 (by rw [I2.hi]; simp [I2.hs]) HC.out.1 (by simp only [List.length_cons, List.length_nil]; show 2 = min 2 (n - J); omega)
                (fun j v hj => by
                  have hjl : j < 2 := (List.getElem?_eq_some_iff.1 hj).1
                  have hj2 : j = 0 ∨ j = 1 := by omega
                  rcases hj2 with rfl | rfl
                  · have : v = .int .u8 94 := by simpa using hj.symm
                    rw [this, World.cell?_drew]; exact b3
                  · have : v = .int .u8 (subB c.toNat) := by simpa using hj.symm
                    rw [this, World.cell?_drew]; exact b4)
                (by have := HC.out.2.1; simp only [List.length_cons, List.length_nil]; omega) (by intro v hv; simp only [List.mem_cons, List.not_mem_nil, or_false] at hv; rcases hv with rfl | rfl <;> rfl)
              simp only [List.length_cons, List.length_nil] at hcp
              have HC3 := HC.out
              have hpb : ([.int .u8 94, .int .u8 (subB c.toNat)] : List Value) = (parB c).map (fun b => Value.int .u8 ((b.toNat : Nat) : Int)) := by
                rcases hsc with h | h | h
                · have hc9 : c = 94 := by apply UInt8.toNat_inj.1; rw [h]; rfl
                  subst hc9; rfl
                · have hc9 : c = 10 := by apply UInt8.toNat_inj.1; rw [h]; rfl
                  subst hc9; rfl
                · have hc9 : c = 34 := by apply UInt8.toNat_inj.1; rw [h]; rfl
                  subst hc9; rfl
              have HPB := Aside0.mk hpb
              clear hpb hsc
              go_wp2
              go_region
              go_wp2
              go_roundg g
              case measure => have := HK.out; omega
              case rel =>
                have hlen2 : (parB c).length = 2 := by rw [parB_len, if_pos hsp]
                have hJ2 := HJ.out
                have hrp := row_put cur (parT (s.data.toList.take k)) (parB c) n HC3.2.1 (fun x hx => HC3.2.2 x (by rw [← hJ2]; exact hx)) (by rw [hJ2, hlen2]; omega)
                rw [hJ2, hlen2, ← HPB.out] at hrp
                simp only [List.append_assoc, List.cons_append, List.nil_append] at hrp
                refine ⟨k + 1, _, by first | rfl | (go_num; done) | (congr 1; omega), by rw [HTk.out, parT_snoc, List.length_append, hJ2, hlen2]; rfl, by omega, ⟨by have := HK.out; omega⟩, ⟨setRow_heap _ _ _ _ _ _ HC3.1, hrp.1, fun x hx => ?_⟩, ⟨below_setRow (below_drew HB.out) (by have := HGE.out; omega) _⟩⟩
                rw [HTk.out, parT_snoc] at hx ⊢
                exact hrp.2 x hx
            · have hcell : wr.cell? ⟨p, c.toNat, none⟩ = some (.slice none 0 0) := by
                rw [Bool.not_eq_true] at hsp
                unfold isS at hsp
                simp only [Bool.or_eq_false_iff, beq_eq_false_iff_ne] at hsp
                have ne : ∀ n : Nat, n < 256 → c ≠ n.toUInt8 → c.toNat ≠ n := fun n hn h e => h (by apply UInt8.toNat_inj.1; rw [e]; simp; omega)
                exact HTn.nils c.toNat hc2 (ne 94 (by omega) hsp.1.1) (ne 10 (by omega) hsp.1.2) (ne 34 (by omega) hsp.2)
              have nq := neq_nil
              rw [if_neg hsp] at hLn
              have hJn : decide (J < n) = true := decide_eq_true (by omega)
              have hold : wr.cell? ⟨G, J, none⟩ = some (cur[J]'(by have := HC.out.2.1; omega)) := by
                rw [cell_blk HC.out.1, Array.getElem?_eq_getElem]
              have hfz := froz_blk HC.out.1 J
              go_wp2
              go_roundg g
              case measure => have := HK.out; omega
              case rel =>
                have hlen1 : parB c = [c] := parB_no c (by rw [Bool.not_eq_true] at hsp; exact hsp)
                have hJ2 := HJ.out
                have hrs := row_set cur (parT (s.data.toList.take k)) c n HC.out.2.1 (fun x hx => HC.out.2.2 x (by rw [← hJ2]; exact hx)) (by rw [hJ2]; omega)
                rw [hJ2] at hrs
                refine ⟨k + 1, _, by first | rfl | (go_num; done) | (congr 1; omega), by rw [HTk.out, parT_snoc, hlen1, List.length_append, hJ2]; rfl, by omega, ⟨by have := HK.out; omega⟩, ⟨blkSet HC.out.1 _ _, hrs.1, fun x hx => ?_⟩, ⟨Below.setCell HB.out (by have := HGE.out; show _ ≤ G; omega) _⟩⟩
                rw [HTk.out, parT_snoc, hlen1] at hx ⊢
                exact hrs.2 x hx
          · have hd3 : decide (k < s.size) = false := decide_eq_false hlt2
            have hks : k = s.size := by omega
            subst hks
            have htk2 : s.data.toList.take s.size = s.data.toList := List.take_of_length_le (by simp)
            rw [htk2] at HC ⊢
            have hcv := run_convert_bytes_back (P := Tryz.prog) wr 46 9 5 ⟨G, 0, none⟩ n (parT s.data.toList) Tryz.underlying46 Tryz.underlying5 Tryz.underlying9 (fun j hj => by
              have ha : (⟨G, 0, none⟩ : Addr).add j = ⟨G, j, none⟩ := by
                unfold Addr.add
                split
                · rename_i h8; subst h8; rfl
                · simp
              rw [ha, cell_blk HC.out.1, HC.out.2.2 j hj, List.getD_eq_getElem?_getD, List.getElem?_eq_getElem hj]; rfl)
            rw [HN.out] at hcv
            go_wp2
            go_ret
            exact ⟨rfl, HW.out.trans (HB.out.mono HW.out.size)⟩
      · rw [Bool.not_eq_true] at hany
        rw [hany]
        have hno := parT_no _ hany
        go_wp2
        go_ret
        exact ⟨by rw [hno, ba_of]; rfl, HW.out⟩
theorem bsr_walk (p : Nat) (s : ByteArray) (w : World) (hT : RT p w) (hs : s.size ≤ 2000000000) :
    Calls Tryz.prog 130 #[.pointer (some ⟨p, 0, none⟩), .string s] w fun e w' => e = .returned (.string ⟨(parT s.data.toList).toArray⟩) ∧ Below w.heap.size w w' := by
  by_cases h : s.size < 24
  · exact bsr_short p s w hT h
  · exact bsr_long p s w hT h hs
end Go.Proofs.YtknmbalhbecdhaaGreatDoor.Print
end
section
set_option linter.unusedVariables false
set_option linter.unusedSimpArgs false
namespace Go.Proofs.YtknmbalhbecdhaaGreatDoor.Print
open Go.RowKit Go.Proofs.YtknmbalhbecdhaaGreatDoorW.PrintWords Go.Proofs.YtknmbalhbecdhaaGreatDoorW.PrintLast Go.Proofs.YtknmbalhbecdhaaGreatDoorW.PrintMore
/-- The six strings of a replacer. -/
structure Six (b : Nat) (w : World) : Prop where
  h0 : w.cell? ⟨b, 0, none⟩ = some (.string ⟨#[94]⟩)
  h1 : w.cell? ⟨b, 1, none⟩ = some (.string ⟨#[94, 94]⟩)
  h2 : w.cell? ⟨b, 2, none⟩ = some (.string ⟨#[10]⟩)
  h3 : w.cell? ⟨b, 3, none⟩ = some (.string ⟨#[94, 110]⟩)
  h4 : w.cell? ⟨b, 4, none⟩ = some (.string ⟨#[34]⟩)
  h5 : w.cell? ⟨b, 5, none⟩ = some (.string ⟨#[94, 39]⟩)
/-- A new replacer: not built yet. -/
structure RN (p c cap : Nat) (w : World) : Prop where
  blk : w.heap[p]? = some (.cells #[.int .u32 0, .int .i32 0, .int .u32 0, .nilIface, .slice (some ⟨c, 0, none⟩) 6 cap] 100 (0, 0))
  six : Six c w
theorem allocAt (w : World) (o : Obj) : (w.alloc o).heap[w.heap.size]? = some o := by simp only [World.alloc, Array.getElem?_push_size]
theorem new_walk (b : Nat) (w : World) (h : Six b w) :
    Calls Tryz.prog 41 #[.slice (some ⟨b, 0, none⟩) 6 6] w fun e w' => ∃ p c cap : Nat, e = .returned (.pointer (some ⟨p, 0, none⟩)) ∧ RN p c cap w' ∧ w.heap.size ≤ c ∧ c < p ∧ Below w.heap.size w w' := by
  obtain ⟨h0, h1, h2, h3, h4, h5⟩ := h
  go_enter Tryz.func41, Tryz.ntmps41
  go_wp2
  go_ret
  refine ⟨w.heap.size + 1, w.heap.size, (Question.appendCap 6 0 9).cut (w.tape w.drawn (Question.appendCap 6 0 9)), by first | rfl | simp, ⟨?_, ?_⟩, Nat.le_refl _, Nat.lt_succ_self _, ?_⟩
  · have := allocAt (w.alloc (.cells (#[.string ⟨#[94]⟩, .string ⟨#[94, 94]⟩, .string ⟨#[10]⟩, .string ⟨#[94, 110]⟩, .string ⟨#[34]⟩, .string ⟨#[94, 39]⟩] ++ Builtin.zeroCells #[.string ⟨#[]⟩] ((Question.appendCap 6 0 9).cut (w.tape w.drawn (Question.appendCap 6 0 9)) - 6)) 9)) (.cells #[.int .u32 0, .int .i32 0, .int .u32 0, .nilIface, .slice (some ⟨w.heap.size, 0, none⟩) 6 ((Question.appendCap 6 0 9).cut (w.tape w.drawn (Question.appendCap 6 0 9)))] 100)
    rw [World.size_alloc] at this
    exact this
  · constructor
    all_goals
      rw [World.cell?_drew, World.cell?_alloc_lt _ _ _ (by simp), World.cell?_alloc_at _ _ _ _ rfl, Array.getElem?_append_left (by simp)]
      rfl
  · exact below_drew (((Below.refl _ _).alloc (Nat.le_refl _) _).alloc (by simp) _)
end Go.Proofs.YtknmbalhbecdhaaGreatDoor.Print
end
section
set_option linter.unusedVariables false
set_option linter.unusedSimpArgs false
namespace Go.Proofs.YtknmbalhbecdhaaGreatDoor.Print
open Go.RowKit Go.Proofs.YtknmbalhbecdhaaGreatDoorW.PrintWords Go.Proofs.YtknmbalhbecdhaaGreatDoorW.PrintLast Go.Proofs.YtknmbalhbecdhaaGreatDoorW.PrintMore
theorem mk3 (w : World) : (Instr.makeSlice 42 (.int .i64 0) (.int .i64 3)).run Tryz.prog w = .ok (.slice (some ⟨w.heap.size, 0, none⟩) 0 3) (w.alloc (.cells #[.string ⟨#[]⟩, .string ⟨#[]⟩, .string ⟨#[]⟩] 9)) := by kernel_rfl
theorem size156 : (Tryz.prog.info? 127).map (·.size) = some 257 := by kernel_rfl
theorem zsize : Tryz.zeroCells127.size = 257 := by kernel_rfl
theorem zone : Tryz.zeroCells127.all (·.oneCell') = true := by kernel_rfl
/-- The table, before a byte is laid. -/
noncomputable def T0 (g : Nat) : Array Value := (Tryz.zeroCells127.toList.set 256 (.slice (some ⟨g, 0, none⟩) 0 3)).toArray
theorem T0_size (g : Nat) : (T0 g).size = 257 := by unfold T0; rw [List.size_toArray, List.length_set, Array.length_toList]; exact zsize
theorem T0_one (g : Nat) : (T0 g).all (·.oneCell') = true := by
  unfold T0
  rw [List.all_toArray, List.all_eq_true]
  intro v hv
  rcases List.mem_or_eq_of_mem_set hv with h | rfl
  · have := zone
    rw [← Array.all_toList, List.all_eq_true] at this
    exact this v h
  · rfl
theorem zrep : Tryz.zeroCells127 = Array.replicate 257 (.slice none 0 0) := by kernel_rfl
theorem eql_nil (w : World) : (binOp .eql 46 (.slice none 0 0) (.slice none 0 0)).run Tryz.prog w = .ok (.bool true) w := by kernel_rfl
theorem T0_nil (g c : Nat) (hc : c < 256) : (T0 g)[c]? = some (.slice none 0 0) := by
  unfold T0
  rw [List.getElem?_toArray, List.getElem?_set_ne (by omega), Array.getElem?_toList]
  rw [zrep, Array.getElem?_replicate, if_pos (by omega)]
theorem T0_list (g : Nat) : (T0 g)[256]? = some (.slice (some ⟨g, 0, none⟩) 0 3) := by
  unfold T0
  rw [List.getElem?_toArray, List.getElem?_set_self (by rw [Array.length_toList, zsize]; omega)]
theorem put156 (w : World) (g : Nat) : (storeCells ⟨w.heap.size, 0, none⟩ (Tryz.zeroCells127.toList.set 256 (.slice (some ⟨g, 0, none⟩) 0 3)) 0).run Tryz.prog (w.alloc (.cells Tryz.zeroCells127 127)) = .ok () (w.alloc (.cells (T0 g) 127)) :=
  run_storeCells_new w 127 _ (T0 g) (by rw [size156, T0_size]) (by rw [zsize, T0_size]) (T0_one g)
theorem cv_byte (b : UInt8) (w : World) : (convert 46 9 (.slice (some ⟨w.heap.size, 0, none⟩) 1 1)).run Tryz.prog (w.alloc (.cells #[.int .u8 ((b.toNat : Nat) : Int)] 5)) = .ok (.string ⟨#[b]⟩) (w.alloc (.cells #[.int .u8 ((b.toNat : Nat) : Int)] 5)) :=
  run_convert_bytes_back (P := Tryz.prog) _ 46 9 5 ⟨w.heap.size, 0, none⟩ 1 [b] Tryz.underlying46 Tryz.underlying5 Tryz.underlying9 (fun j hj => by
    have hj0 : j = 0 := by simpa using hj
    subst hj0
    show (w.alloc _).cell? ⟨w.heap.size, 0, none⟩ = _
    rw [World.cell?_alloc_at _ _ _ _ rfl]; rfl)
/-- The bytes that are laid, in their order. -/
def ob (k : Nat) : Nat := if k = 0 then 34 else if k = 1 then 10 else 94
/-- The table of replacements while it is filled: so many bytes are laid. -/
structure Stage (w0 : World) (T Q : Nat) (k : Nat) (w : World) : Prop where
  bel : Below w0.heap.size w0 w
  tb : ∃ tc : Array Value, w.heap[T]? = some (.cells tc 9 (0, 0)) ∧ tc.size = 3 ∧ ∀ j, j < k → tc[j]? = some (.string ⟨#[(ob j).toUInt8]⟩)
  qb : ∃ qc : Array Value, w.heap[Q]? = some (.cells qc 127 (0, 0)) ∧ qc.size = 257 ∧ qc[256]? = some (.slice (some ⟨T, 0, none⟩) k 3) ∧
    (∀ c, c < 256 → (∀ j, j < k → c ≠ ob j) → qc[c]? = some (.slice none 0 0)) ∧
    (∀ j, j < k → ∃ q cap, qc[ob j]? = some (.slice (some ⟨q, 0, none⟩) 2 cap) ∧ 2 ≤ cap ∧ q ≠ T ∧ q ≠ Q ∧ w0.heap.size ≤ q ∧ w.cell? ⟨q, 0, none⟩ = some (.int .u8 94) ∧ w.cell? ⟨q, 1, none⟩ = some (.int .u8 (subB (ob j))))
theorem cv_str (s : ByteArray) (w : World) : ∃ w' cap, (convert 9 46 (.string s)).run Tryz.prog w = .ok (.slice (some ⟨w.heap.size, 0, none⟩) s.size cap) w' ∧ Below w.heap.size w w' ∧ s.size ≤ cap ∧ (∀ j, j < s.size → w'.cell? ⟨w.heap.size, j, none⟩ = some (.int .u8 ((s.data.toList.getD j 0).toNat : Nat))) := by
  refine ⟨Lib.bytesWorld w 5 s, _, Lib.run_convert_string_bytes w 9 46 5 s Tryz.underlying9 Tryz.underlying46 Tryz.underlying5, ?_, grownCap_ge _ _ _ _, fun j hj => Lib.bytesWorld_cell w 5 s j hj⟩
  refine ⟨?_, ?_, ?_, ?_, fun j hj => Lib.bytesWorld_at_old w 5 s j hj⟩
  · unfold Lib.bytesWorld World.freeze; split <;> rfl
  · unfold Lib.bytesWorld World.freeze; split <;> rfl
  · unfold Lib.bytesWorld World.freeze; split <;> rfl
  · rw [Lib.bytesWorld_size]; omega
theorem blkSetO {w : World} {g h : Nat} {j : Nat} {x : Option Obj} (hx : w.heap[g]? = x) (hne : g ≠ h) (u : Value) : (w.setCell ⟨h, j, none⟩ u).heap[g]? = x := by
  rw [Below.heap_setCell _ _ _ _ hne]; exact hx
theorem blkAl {w : World} {g : Nat} {x : Obj} (hx : w.heap[g]? = some x) (o : Obj) : (w.alloc o).heap[g]? = some x := by
  rw [Below.heap_alloc _ _ _ (Array.getElem?_eq_some_iff.1 hx).1]; exact hx
theorem ob_lt (k : Nat) : ob k < 256 := by unfold ob; split <;> (try split) <;> omega
theorem ob_ne {j k : Nat} (h : j < k) (hk : k < 3) : ob j ≠ ob k := by
  have : k = 1 ∨ k = 2 := by omega
  rcases this with rfl | rfl
  · obtain rfl : j = 0 := by omega
    decide
  · have : j = 0 ∨ j = 1 := by omega
    rcases this with rfl | rfl <;> decide
/-- The world in which a round's replacement is made. -/
def midW (T Q k : Nat) (o : UInt8) (wr : World) : World := (((wr.setCell ⟨T, k, none⟩ (.string ⟨#[o]⟩)).setCell ⟨Q, 256, none⟩ (.slice (some ⟨T, 0, none⟩) (k + 1) 3)).alloc (.cells #[.int .u8 ((o.toNat : Nat) : Int)] 5)).alloc (.cells #[.string ⟨#[o]⟩] 9)
theorem stage_step {w0 wr : World} {T Q k : Nat} (hS : Stage w0 T Q k wr) (hk : k < 3) (hT : w0.heap.size ≤ T) (hQ : w0.heap.size ≤ Q) (hTQ : T ≠ Q) {w' : World} {cap : Nat} (o : UInt8) (ho : o = (ob k).toUInt8)
    (hB : Below (midW T Q k o wr).heap.size (midW T Q k o wr) w') (hc : 2 ≤ cap)
    (c0 : w'.cell? ⟨(midW T Q k o wr).heap.size, 0, none⟩ = some (.int .u8 94)) (c1 : w'.cell? ⟨(midW T Q k o wr).heap.size, 1, none⟩ = some (.int .u8 (subB (ob k)))) :
    Stage w0 T Q (k + 1) (w'.setCell ⟨Q, ob k, none⟩ (.slice (some ⟨(midW T Q k o wr).heap.size, 0, none⟩) 2 cap)) := by
  obtain ⟨hb, ⟨tc, ht1, ht2, ht3⟩, ⟨qc, hq1, hq2, hq3, hq4, hq5⟩⟩ := hS
  have hTl : T < wr.heap.size := (Array.getElem?_eq_some_iff.1 ht1).1
  have hQl : Q < wr.heap.size := (Array.getElem?_eq_some_iff.1 hq1).1
  have hms : (midW T Q k o wr).heap.size = wr.heap.size + 2 := by unfold midW; simp
  have hw0 := hb.size
  have hobl := ob_lt k
  have bm : Below w0.heap.size w0 (midW T Q k o wr) :=
    (((hb.setCell (p := ⟨T, k, none⟩) hT _).setCell (p := ⟨Q, 256, none⟩) hQ _).alloc (by simp; omega) _).alloc (by simp; omega) _
  have bw : Below w0.heap.size w0 w' := bm.trans (hB.mono (by omega))
  have mt : (midW T Q k o wr).heap[T]? = some (.cells (tc.setIfInBounds k (.string ⟨#[o]⟩)) 9 (0, 0)) :=
    blkAl (blkAl (blkSetO (blkSet ht1 k _) hTQ _) _) _
  have mq : (midW T Q k o wr).heap[Q]? = some (.cells (qc.setIfInBounds 256 (.slice (some ⟨T, 0, none⟩) (k + 1) 3)) 127 (0, 0)) :=
    blkAl (blkAl (blkSet (blkSetO hq1 (Ne.symm hTQ) _) 256 _) _) _
  have wt := (hB.block T (by omega)).trans mt
  have wq := (hB.block Q (by omega)).trans mq
  refine ⟨bw.setCell (p := ⟨Q, ob k, none⟩) hQ _, ⟨_, blkSetO wt hTQ _, by rw [Array.size_setIfInBounds]; exact ht2, fun j hj => ?_⟩, ⟨_, blkSet wq _ _, by rw [Array.size_setIfInBounds, Array.size_setIfInBounds]; exact hq2, ?_, fun c hc' hne => ?_, fun j hj => ?_⟩⟩
  · by_cases h : j = k
    · subst h; rw [Array.getElem?_setIfInBounds_self_of_lt (by omega), ho]
    · rw [Array.getElem?_setIfInBounds_ne (by omega)]; exact ht3 j (by omega)
  · rw [Array.getElem?_setIfInBounds_ne (by omega), Array.getElem?_setIfInBounds_self_of_lt (by omega)]
  · have hck := hne k (by omega)
    rw [Array.getElem?_setIfInBounds_ne (by omega), Array.getElem?_setIfInBounds_ne (by omega)]
    exact hq4 c hc' (fun j hj => hne j (by omega))
  · by_cases h : j = k
    · subst h
      refine ⟨_, cap, by rw [Array.getElem?_setIfInBounds_self_of_lt (by rw [Array.size_setIfInBounds]; omega)], hc, by omega, by omega, by omega, ?_, ?_⟩
      · rw [World.cell?_setCell_other _ _ _ _ (by intro e; have := congrArg Addr.block e; simp at this; omega)]; exact c0
      · rw [World.cell?_setCell_other _ _ _ _ (by intro e; have := congrArg Addr.block e; simp at this; omega)]; exact c1
    · have hjk : j < k := by omega
      obtain ⟨q, cap', a1, a2, a3, a4, a7, a5, a6⟩ := hq5 j hjk
      have hql : q < wr.heap.size := cellLt a5
      have hob := ob_ne hjk hk
      have hobj := ob_lt j
      refine ⟨q, cap', by rw [Array.getElem?_setIfInBounds_ne (Ne.symm hob), Array.getElem?_setIfInBounds_ne (by omega)]; exact a1, a2, a3, a4, a7, ?_, ?_⟩
      all_goals
        rw [World.cell?_setCell_other _ _ _ _ (by intro e; have := congrArg Addr.block e; simp at this; omega)]
        refine (hB.cell (p := ⟨q, _, none⟩) (by show q < _; omega)).trans ?_
        unfold midW
        rw [World.cell?_alloc_lt _ _ _ (by simp; omega), World.cell?_alloc_lt _ _ _ (by simp; omega), World.cell?_setCell_other _ _ _ _ (by intro e; have := congrArg Addr.block e; simp at this; omega), World.cell?_setCell_other _ _ _ _ (by intro e; have := congrArg Addr.block e; simp at this; omega)]
        first | exact a5 | exact a6
/-- The table lies in blocks from a place on: what happens below it leaves it. -/
def RTA (B p : Nat) (w : World) : Prop := ∀ w' : World, (∀ k, B ≤ k → w'.heap[k]? = w.heap[k]?) → RT p w'
theorem RTA.rt {B p : Nat} {w : World} (h : RTA B p w) : RT p w := h w (fun _ _ => rfl)
theorem RTA.keep {B p : Nat} {w w' : World} (h : RTA B p w) (hk : ∀ k, B ≤ k → w'.heap[k]? = w.heap[k]?) : RTA B p w' := fun w2 h2 => h w2 (fun k hb => (h2 k hb).trans (hk k hb))
theorem RTA.set {B p : Nat} {w : World} (h : RTA B p w) (a : Addr) (ha : a.block < B) (u : Value) : RTA B p (w.setCell a u) := h.keep (fun k hk => Below.heap_setCell _ _ _ _ (by omega))
theorem RTA.drew {B p : Nat} {w : World} (h : RTA B p w) : RTA B p w.drew := h.keep (fun _ _ => rfl)
theorem rt_of_stage {w0 w : World} {T Q : Nat} (hT : w0.heap.size ≤ T) (hQ : w0.heap.size ≤ Q) (h : Stage w0 T Q 3 w) : RTA w0.heap.size Q w := by
  intro w' hk
  obtain ⟨hb, ⟨tc, ht1, ht2, ht3⟩, ⟨qc, hq1, hq2, hq3, hq4, hq5⟩⟩ := h
  rw [← hk T hT] at ht1
  rw [← hk Q hQ] at hq1
  refine ⟨fun c hc h1 h2 h3 => ?_, fun c hc => ?_, ⟨T, 3, by rw [cell_blk hq1]; exact hq3, Nat.le_refl _, by rw [cell_blk ht1]; exact ht3 0 (by omega), by rw [cell_blk ht1]; exact ht3 1 (by omega), by rw [cell_blk ht1]; exact ht3 2 (by omega)⟩⟩
  · rw [cell_blk hq1]
    refine hq4 c hc (fun j hj => ?_)
    have : j = 0 ∨ j = 1 ∨ j = 2 := by omega
    rcases this with rfl | rfl | rfl
    · exact h3
    · exact h2
    · exact h1
  · have : ∃ j, j < 3 ∧ c = ob j := by
      rcases hc with h | h | h
      · exact ⟨2, by omega, h⟩
      · exact ⟨1, by omega, h⟩
      · exact ⟨0, by omega, h⟩
    obtain ⟨j, hj, rfl⟩ := this
    obtain ⟨q, cap, a1, a2, a3, a4, a7, a5, a6⟩ := hq5 j hj
    exact ⟨q, cap, by rw [cell_blk hq1]; exact a1, a2, (World.cell?_of_block (w := w) (hk q a7)).trans a5, (World.cell?_of_block (w := w) (hk q a7)).trans a6⟩
theorem stage_zero (w : World) : Stage w w.heap.size (w.heap.size + 1) 0 ((w.alloc (.cells #[.string ⟨#[]⟩, .string ⟨#[]⟩, .string ⟨#[]⟩] 9)).alloc (.cells (T0 w.heap.size) 127)) := by
  have e1 := allocAt (w.alloc (.cells #[.string ⟨#[]⟩, .string ⟨#[]⟩, .string ⟨#[]⟩] 9)) (.cells (T0 w.heap.size) 127)
  rw [World.size_alloc] at e1
  refine ⟨((Below.refl _ _).alloc (Nat.le_refl _) _).alloc (by simp) _, ⟨_, blkAl (allocAt w _) _, rfl, fun j hj => by omega⟩, ⟨_, e1, T0_size _, T0_list _, fun c hc _ => T0_nil _ c hc, fun j hj => by omega⟩⟩
set_option maxHeartbeats 4000000 in
set_option maxRecDepth 100000 in
theorem build_walk (p c cap : Nat) (w : World) (hold : w.cell? ⟨p, 4, none⟩ = some (.slice (some ⟨c, 0, none⟩) 6 cap)) (h : Six c w) :
    Calls Tryz.prog 60 #[.pointer (some ⟨p, 0, none⟩)] w fun e w' => ∃ q : Nat, e = .returned (.iface 128 (.pointer (some ⟨q, 0, none⟩))) ∧ RTA w.heap.size q w' ∧ Below w.heap.size w w' := by
  obtain ⟨h0, h1, h2, h3, h4, h5⟩ := h
  have hmk := mk3
  have hnn := neq_nil
  have hput := put156 (w.alloc (.cells #[.string ⟨#[]⟩, .string ⟨#[]⟩, .string ⟨#[]⟩] 9)) w.heap.size
  rw [World.size_alloc] at hput
  go_enter Tryz.func60, Tryz.ntmps60
  go_wp2
  refine wp_loop_rounds 4 ?_
  rw [rounds_succ]
  go_wp2
  rw [rounds_succ]
  go_wp2
  rw [rounds_succ]
  go_wp2
  rw [rounds_succ]
  go_wp2
  have heq := eql_nil
  have hcl : c < w.heap.size := cellLt h0
  have HS0 := Aside0.mk (stage_zero w)
  obtain ⟨T, hT⟩ : ∃ T, T = w.heap.size := ⟨_, rfl⟩
  obtain ⟨Q, hQ⟩ : ∃ Q, Q = T + 1 := ⟨_, rfl⟩
  have HT := Aside0.mk hT
  have HQ := Aside0.mk hQ
  rw [← hT, ← hQ] at HS0 ⊢
  clear hT hQ hput hmk hold hnn
  go_loopg [12, 13, 14] 4 (fun g v12 v13 v14 wr => ∃ k : Nat, v12 = .int .i64 (4 - 2 * (k : Int)) ∧ k ≤ 3 ∧ Aside0 (3 ≤ k + g) ∧ Aside0 (Stage w T Q k wr))
  case atStart => exact ⟨0, rfl, by omega, ⟨by omega⟩, HS0⟩
  case round =>
    obtain ⟨k, rfl, hk, HK, HSt⟩ := hrel
    obtain ⟨hb, ⟨tc, ht1, ht2, ht3⟩, ⟨qc, hq1, hq2, hq3, hq4, hq5⟩⟩ := HSt.out
    rcases Nat.lt_or_ge k 3 with hlt | hge
    · cases gk with
      | zero => exfalso; have := HK.out; omega
      | succ g =>
      have qt : wr.cell? ⟨Q, 256, none⟩ = some (.slice (some ⟨T, 0, none⟩) k 3) := by rw [cell_blk hq1]; exact hq3
      have qn : wr.cell? ⟨Q, ob k, none⟩ = some (.slice none 0 0) := by
        rw [cell_blk hq1]; refine hq4 _ (by unfold ob; split <;> (try split) <;> omega) (fun j hj => ?_)
        unfold ob
        have : k = 0 ∨ k = 1 ∨ k = 2 := by omega
        rcases this with rfl | rfl | rfl
        · omega
        · obtain rfl : j = 0 := by omega
          decide
        · have : j = 0 ∨ j = 1 := by omega
          rcases this with rfl | rfl <;> decide
      have fz : ∀ j, wr.frozen? ⟨Q, j, none⟩ = false := fun j => froz_blk hq1 j
      have ft : ∀ j, wr.frozen? ⟨T, j, none⟩ = false := fun j => froz_blk ht1 j
      have htk : ∃ v, wr.cell? ⟨T, k, none⟩ = some v := ⟨tc[k]'(by omega), by rw [cell_blk ht1, Array.getElem?_eq_getElem]⟩
      obtain ⟨tv, htk⟩ := htk
      have g0 := (hb.cell (p := ⟨c, 0, none⟩) hcl).trans h0
      have g1 := (hb.cell (p := ⟨c, 1, none⟩) hcl).trans h1
      have g2 := (hb.cell (p := ⟨c, 2, none⟩) hcl).trans h2
      have g3 := (hb.cell (p := ⟨c, 3, none⟩) hcl).trans h3
      have g4 := (hb.cell (p := ⟨c, 4, none⟩) hcl).trans h4
      have g5 := (hb.cell (p := ⟨c, 5, none⟩) hcl).trans h5
      have hTl : T < wr.heap.size := cellLt htk
      have hQl : Q < wr.heap.size := cellLt qt
      clear hb ht1 ht2 ht3 hq1 hq2 hq3 hq4 hq5 h0 h1 h2 h3 h4 h5
      have hk3 : k = 0 ∨ k = 1 ∨ k = 2 := by omega
      rcases hk3 with rfl | rfl | rfl
      · have hz : ob 0 = 34 := rfl
        rw [hz] at qn
        clear hz
        have xo : (⟨#[34]⟩ : ByteArray)[0]'(by decide) = 34 := rfl
        have cv := cv_byte 34
        rw [show (((34 : UInt8).toNat : Nat) : Int) = 34 from rfl] at cv
        have yo : (34 : UInt8).toNat = 34 := rfl
        obtain ⟨w', cp, hrun, HB', hcp, hcl'⟩ := cv_str ⟨#[94, 39]⟩ (midW T Q 0 34 wr)
        have HM := Aside0.mk (show (midW T Q 0 34 wr).heap.size = wr.heap.size + 2 by unfold midW; simp)
        have z0 := hcl' 0 (by decide)
        have z1 := hcl' 1 (by decide)
        have qn' : w'.cell? ⟨Q, 34, none⟩ = some (.slice none 0 0) := by
          refine (HB'.cell (p := ⟨Q, 34, none⟩) (by have := HM.out; show Q < _; omega)).trans ?_
          unfold midW
          rw [World.cell?_alloc_lt _ _ _ (by simp; omega), World.cell?_alloc_lt _ _ _ (by simp; omega), World.cell?_setCell_other _ _ _ _ (by simp), World.cell?_setCell_other _ _ _ _ (by intro e; have := congrArg Addr.block e; simp at this; have := HQ.out; omega)]
          exact qn
        have fq' : w'.frozen? ⟨Q, 34, none⟩ = false := by
          refine (HB'.frozen (p := ⟨Q, 34, none⟩) (by have := HM.out; show Q < _; omega)).trans ?_
          unfold midW
          rw [World.frozen?_alloc_past _ _ _ (by simp; omega), World.frozen?_alloc_past _ _ _ (by simp; omega)]
          simp [fz]
        have HFin := Aside0.mk (stage_step HSt.out hlt (by have := HT.out; omega) (by have := HT.out; have := HQ.out; omega) (by have := HQ.out; omega) 34 rfl HB' hcp z0 z1)
        have hrun2 : (convert 9 46 (.string ⟨#[94, 39]⟩)).run Tryz.prog ((((wr.setCell ⟨T, 0, none⟩ (.string ⟨#[34]⟩)).setCell ⟨Q, 256, none⟩ (.slice (some ⟨T, 0, none⟩) 1 3)).alloc (.cells #[.int .u8 34] 5)).alloc (.cells #[.string ⟨#[34]⟩] 9)) = .ok (.slice (some ⟨(midW T Q 0 34 wr).heap.size, 0, none⟩) 2 cp) w' := hrun
        obtain ⟨G, hG⟩ : ∃ G, G = (midW T Q 0 34 wr).heap.size := ⟨_, rfl⟩
        rw [← hG] at hrun2 HFin
        clear hrun HB' hcp hcl' z0 z1 HM hG
        go_wp2
        go_roundg g
        case measure => have := HK.out; omega
        case rel => exact ⟨0 + 1, by first | rfl | (go_num; done), by omega, ⟨by have := HK.out; omega⟩, HFin⟩
      · have hz : ob 1 = 10 := rfl
        rw [hz] at qn
        clear hz
        have xo : (⟨#[10]⟩ : ByteArray)[0]'(by decide) = 10 := rfl
        have cv := cv_byte 10
        rw [show (((10 : UInt8).toNat : Nat) : Int) = 10 from rfl] at cv
        have yo : (10 : UInt8).toNat = 10 := rfl
        obtain ⟨w', cp, hrun, HB', hcp, hcl'⟩ := cv_str ⟨#[94, 110]⟩ (midW T Q 1 10 wr)
        have HM := Aside0.mk (show (midW T Q 1 10 wr).heap.size = wr.heap.size + 2 by unfold midW; simp)
        have z0 := hcl' 0 (by decide)
        have z1 := hcl' 1 (by decide)
        have qn' : w'.cell? ⟨Q, 10, none⟩ = some (.slice none 0 0) := by
          refine (HB'.cell (p := ⟨Q, 10, none⟩) (by have := HM.out; show Q < _; omega)).trans ?_
          unfold midW
          rw [World.cell?_alloc_lt _ _ _ (by simp; omega), World.cell?_alloc_lt _ _ _ (by simp; omega), World.cell?_setCell_other _ _ _ _ (by simp), World.cell?_setCell_other _ _ _ _ (by intro e; have := congrArg Addr.block e; simp at this; have := HQ.out; omega)]
          exact qn
        have fq' : w'.frozen? ⟨Q, 10, none⟩ = false := by
          refine (HB'.frozen (p := ⟨Q, 10, none⟩) (by have := HM.out; show Q < _; omega)).trans ?_
          unfold midW
          rw [World.frozen?_alloc_past _ _ _ (by simp; omega), World.frozen?_alloc_past _ _ _ (by simp; omega)]
          simp [fz]
        have HFin := Aside0.mk (stage_step HSt.out hlt (by have := HT.out; omega) (by have := HT.out; have := HQ.out; omega) (by have := HQ.out; omega) 10 rfl HB' hcp z0 z1)
        have hrun2 : (convert 9 46 (.string ⟨#[94, 110]⟩)).run Tryz.prog ((((wr.setCell ⟨T, 1, none⟩ (.string ⟨#[10]⟩)).setCell ⟨Q, 256, none⟩ (.slice (some ⟨T, 0, none⟩) 2 3)).alloc (.cells #[.int .u8 10] 5)).alloc (.cells #[.string ⟨#[10]⟩] 9)) = .ok (.slice (some ⟨(midW T Q 1 10 wr).heap.size, 0, none⟩) 2 cp) w' := hrun
        obtain ⟨G, hG⟩ : ∃ G, G = (midW T Q 1 10 wr).heap.size := ⟨_, rfl⟩
        rw [← hG] at hrun2 HFin
        clear hrun HB' hcp hcl' z0 z1 HM hG
        go_wp2
        go_roundg g
        case measure => have := HK.out; omega
        case rel => exact ⟨1 + 1, by first | rfl | (go_num; done), by omega, ⟨by have := HK.out; omega⟩, HFin⟩
      · have hz : ob 2 = 94 := rfl
        rw [hz] at qn
        clear hz
        have xo : (⟨#[94]⟩ : ByteArray)[0]'(by decide) = 94 := rfl
        have cv := cv_byte 94
        rw [show (((94 : UInt8).toNat : Nat) : Int) = 94 from rfl] at cv
        have yo : (94 : UInt8).toNat = 94 := rfl
        obtain ⟨w', cp, hrun, HB', hcp, hcl'⟩ := cv_str ⟨#[94, 94]⟩ (midW T Q 2 94 wr)
        have HM := Aside0.mk (show (midW T Q 2 94 wr).heap.size = wr.heap.size + 2 by unfold midW; simp)
        have z0 := hcl' 0 (by decide)
        have z1 := hcl' 1 (by decide)
        have qn' : w'.cell? ⟨Q, 94, none⟩ = some (.slice none 0 0) := by
          refine (HB'.cell (p := ⟨Q, 94, none⟩) (by have := HM.out; show Q < _; omega)).trans ?_
          unfold midW
          rw [World.cell?_alloc_lt _ _ _ (by simp; omega), World.cell?_alloc_lt _ _ _ (by simp; omega), World.cell?_setCell_other _ _ _ _ (by simp), World.cell?_setCell_other _ _ _ _ (by intro e; have := congrArg Addr.block e; simp at this; have := HQ.out; omega)]
          exact qn
        have fq' : w'.frozen? ⟨Q, 94, none⟩ = false := by
          refine (HB'.frozen (p := ⟨Q, 94, none⟩) (by have := HM.out; show Q < _; omega)).trans ?_
          unfold midW
          rw [World.frozen?_alloc_past _ _ _ (by simp; omega), World.frozen?_alloc_past _ _ _ (by simp; omega)]
          simp [fz]
        have HFin := Aside0.mk (stage_step HSt.out hlt (by have := HT.out; omega) (by have := HT.out; have := HQ.out; omega) (by have := HQ.out; omega) 94 rfl HB' hcp z0 z1)
        have hrun2 : (convert 9 46 (.string ⟨#[94, 94]⟩)).run Tryz.prog ((((wr.setCell ⟨T, 2, none⟩ (.string ⟨#[94]⟩)).setCell ⟨Q, 256, none⟩ (.slice (some ⟨T, 0, none⟩) 3 3)).alloc (.cells #[.int .u8 94] 5)).alloc (.cells #[.string ⟨#[94]⟩] 9)) = .ok (.slice (some ⟨(midW T Q 2 94 wr).heap.size, 0, none⟩) 2 cp) w' := hrun
        obtain ⟨G, hG⟩ : ∃ G, G = (midW T Q 2 94 wr).heap.size := ⟨_, rfl⟩
        rw [← hG] at hrun2 HFin
        clear hrun HB' hcp hcl' z0 z1 HM hG
        go_wp2
        go_roundg g
        case measure => have := HK.out; omega
        case rel => exact ⟨2 + 1, by first | rfl | (go_num; done), by omega, ⟨by have := HK.out; omega⟩, HFin⟩
    · have hk3 : k = 3 := by omega
      subst hk3
      go_wp2
      go_ret
      exact ⟨Q, rfl, rt_of_stage (by have := HT.out; omega) (by have := HT.out; have := HQ.out; omega) HSt.out, HSt.out.bel⟩
end Go.Proofs.YtknmbalhbecdhaaGreatDoor.Print
end
section
set_option linter.unusedVariables false
set_option linter.unusedSimpArgs false
namespace Go.Proofs.YtknmbalhbecdhaaGreatDoor.Print
open Go.RowKit Go.Proofs.YtknmbalhbecdhaaGreatDoorW.PrintWords Go.Proofs.YtknmbalhbecdhaaGreatDoorW.PrintLast Go.Proofs.YtknmbalhbecdhaaGreatDoorW.PrintMore
theorem on_disable (w : World) : (callFunc 85 #[]).run Tryz.prog w = .ok (.value (.tuple #[])) w := run_call_mark0 Tryz.func85 (by kernel_rfl) (by kernel_rfl) (by kernel_rfl) .disable (by kernel_rfl) w
theorem on_enable (w : World) : (callFunc 87 #[]).run Tryz.prog w = .ok (.value (.tuple #[])) w := run_call_mark0 Tryz.func87 (by kernel_rfl) (by kernel_rfl) (by kernel_rfl) .enable (by kernel_rfl) w
theorem on_acquire (a : Addr) (w : World) : (callFunc 88 #[.pointer (some a)]).run Tryz.prog w = .ok (.value (.tuple #[])) w := run_call_marked Tryz.func88 (by kernel_rfl) (by kernel_rfl) (by kernel_rfl) .acquire (by kernel_rfl) a w
theorem on_releaseMerge (a : Addr) (w : World) : (callFunc 90 #[.pointer (some a)]).run Tryz.prog w = .ok (.value (.tuple #[])) w := run_call_marked Tryz.func90 (by kernel_rfl) (by kernel_rfl) (by kernel_rfl) .releaseMerge (by kernel_rfl) a w
theorem on_store_deferred (a : Addr) (x : Value) (u : FrameMode) (w : World) (hc : w.cell? a = some x) (hz : w.frozen? a = false) :
    CallsD Tryz.prog 71 #[.pointer (some a), .bool true] u w fun e u' w' => u' = u ∧ (e = .returned (.tuple #[]) ∧ w' = w.drew.setCell a (.int .u32 1)) := by
  have hc' : w.drew.cell? a = some x := by go_simp
  have hz' : w.drew.frozen? a = false := by go_simp
  have hst := run_call_store (P := Tryz.prog) Tryz.func81 (by kernel_rfl) (by kernel_rfl) (by kernel_rfl) (by kernel_rfl) (k := .u32) (y := 1) hc' hz'
  go_enter_d Tryz.func71, Tryz.ntmps71
  go_wp2
  go_region_calls
  all_goals (go_end0; exact ⟨rfl, rfl⟩)
set_option maxRecDepth 100000 in
theorem on_lock_in (a : Addr) (w : World) (hc : w.cell? a = some (.int .i32 0)) (hz : w.frozen? a = false) :
    Calls Tryz.prog 79 #[.pointer (some a)] w fun e w' => e = .returned (.tuple #[]) ∧ w' = w.setCell a (.int .i32 1) := by
  have hd := on_disable
  have he := on_enable
  have ha := on_acquire
  have hcas := run_call_cas_hit (P := Tryz.prog) Tryz.func86 (by kernel_rfl) (by kernel_rfl) (by kernel_rfl) .i32 (by kernel_rfl) (y := 1) hc hz
  have hc' : (w.setCell a (.int .i32 1)).cell? a = some (.int .i32 1) := World.cell?_setCell_same w a _ hc
  have hcv := run_convert_to_unsafe (P := Tryz.prog) (src := 146) (dst := 83) Tryz.underlying146 Tryz.underlying83 (by kernel_rfl) hc'
  go_enter Tryz.func79, Tryz.ntmps79
  go_wp2
  first | go_end0 | (simp only [Exit.inBlock, Exit.then]; refine bodyPost_ret (results_none rfl _ _ _) rfl ?_) | refine bodyPost_ret (results_none rfl _ _ _) rfl ?_
  exact ⟨rfl, rfl⟩
theorem on_lock (a : Addr) (w : World) (hc : w.cell? a = some (.int .i32 0)) (hz : w.frozen? a = false) :
    Calls Tryz.prog 69 #[.pointer (some a)] w fun e w' => e = .returned (.tuple #[]) ∧ w' = w.setCell a (.int .i32 1) := by
  go_enter Tryz.func69, Tryz.ntmps69
  go_wp2_with (go_at_call 79; refine (on_lock_in a _ hc hz).mono ?_; rintro e w' ⟨rfl, rfl⟩)
  go_end0
  exact ⟨rfl, rfl⟩
set_option maxRecDepth 100000 in
theorem on_unlock_in (a : Addr) (w : World) (hc : w.cell? a = some (.int .i32 1)) (hz : w.frozen? a = false) :
    Calls Tryz.prog 80 #[.pointer (some a)] w fun e w' => e = .returned (.tuple #[]) ∧ w' = w.setCell a (.int .i32 0) := by
  have hd := on_disable
  have he := on_enable
  have hr := on_releaseMerge
  have hadd := run_call_add (P := Tryz.prog) Tryz.func91 (by kernel_rfl) (by kernel_rfl) (by kernel_rfl) .i32 (by kernel_rfl) (y := -1) (s := 0) hc hz (by simp [go_sem]; rfl)
  have hcv := run_convert_to_unsafe (P := Tryz.prog) (src := 146) (dst := 83) Tryz.underlying146 Tryz.underlying83 (by kernel_rfl) hc
  go_enter Tryz.func80, Tryz.ntmps80
  go_wp2
  go_end0
  exact ⟨rfl, rfl⟩
theorem on_unlock_deferred (a : Addr) (u : FrameMode) (w : World) (hc : w.cell? a = some (.int .i32 1)) (hz : w.frozen? a = false) :
    CallsD Tryz.prog 70 #[.pointer (some a)] u w fun e u' w' => u' = u ∧ (e = .returned (.tuple #[]) ∧ w' = w.setCell a (.int .i32 0)) := by
  go_enter_d Tryz.func70, Tryz.ntmps70
  go_wp2_with (go_at_call 80; refine (on_unlock_in a _ hc hz).mono ?_; rintro e w' ⟨rfl, rfl⟩)
  go_end0
  exact ⟨rfl, rfl⟩
/-- What buildOnce leaves. -/
def OnB (p : Nat) (w : World) (e : Ending) (w' : World) : Prop := ∃ q w1, e = .returned (.tuple #[]) ∧ RTA w.heap.size q w1 ∧ Below w.heap.size w w1 ∧ w' = (w1.setCell ⟨p, 3, none⟩ (.iface 128 (.pointer (some ⟨q, 0, none⟩)))).setCell ⟨p, 4, none⟩ (.slice none 0 0)
set_option maxRecDepth 100000 in
theorem buildOnce_walk (p c cap : Nat) (w : World) (h3 : w.cell? ⟨p, 3, none⟩ = some .nilIface) (h4 : w.cell? ⟨p, 4, none⟩ = some (.slice (some ⟨c, 0, none⟩) 6 cap)) (f3 : w.frozen? ⟨p, 3, none⟩ = false) (f4 : w.frozen? ⟨p, 4, none⟩ = false) (six : Six c w) :
    Calls Tryz.prog 53 #[.pointer (some ⟨p, 0, none⟩)] w (OnB p w) := by
  have hpl : p < w.heap.size := cellLt h3
  have HS := Aside0.mk six
  clear six
  go_enter Tryz.func53, Tryz.ntmps53
  go_wp2_with fail
  go_at_call 60
  refine (build_walk p c cap _ h4 HS.out).mono ?_
  rintro e w1 ⟨q, rfl, hR, hB⟩
  have g3 := (hB.cell (p := ⟨p, 3, none⟩) hpl).trans h3
  have g4 := (hB.cell (p := ⟨p, 4, none⟩) hpl).trans h4
  have e3 := (hB.frozen (p := ⟨p, 3, none⟩) hpl).trans f3
  have e4 := (hB.frozen (p := ⟨p, 4, none⟩) hpl).trans f4
  have HF := Aside0.mk (And.intro hR hB)
  clear hR hB
  go_wp2_with fail
  go_end0
  exact ⟨q, w1, rfl, HF.out.1, HF.out.2, rfl⟩
theorem on_load (a : Addr) (w : World) (h : w.cell? a = some (.int .u32 0)) :
    Calls Tryz.prog 58 #[.pointer (some a)] w fun e w' => e = .returned (.bool false) ∧ w' = w := by
  have hl := run_call_load (P := Tryz.prog) Tryz.func68 (by kernel_rfl) (by kernel_rfl) (by kernel_rfl) .u32 (by kernel_rfl) h
  go_enter Tryz.func58, Tryz.ntmps58
  go_wp2
  go_ret
  exact ⟨rfl, rfl⟩
/-- What the first Do leaves. -/
def OnD (p : Nat) (w : World) (e : Ending) (w' : World) : Prop := ∃ q, e = .returned (.tuple #[]) ∧ RTA w.heap.size q w' ∧ w'.cell? ⟨p, 3, none⟩ = some (.iface 128 (.pointer (some ⟨q, 0, none⟩))) ∧ Below p w w'
theorem oneOff {p i j : Nat} (h : i ≠ j) : (⟨p, i, none⟩ : Addr) ≠ ⟨p, j, none⟩ := fun e => h (congrArg Addr.off e)
set_option maxRecDepth 100000 in
set_option maxHeartbeats 1600000 in
theorem slow_walk (p c cap : Nat) (w : World) (h0 : w.cell? ⟨p, 0, none⟩ = some (.int .u32 0)) (h1 : w.cell? ⟨p, 1, none⟩ = some (.int .i32 0)) (h3 : w.cell? ⟨p, 3, none⟩ = some .nilIface) (h4 : w.cell? ⟨p, 4, none⟩ = some (.slice (some ⟨c, 0, none⟩) 6 cap))
    (fz : ∀ i, w.frozen? ⟨p, i, none⟩ = false) (six : Six c w) (hcp : c < p) :
    Calls Tryz.prog 59 #[.pointer (some ⟨p, 0, none⟩), .func (.func 53) #[.pointer (some ⟨p, 0, none⟩)] #[]] w (OnD p w) := by
  have hpl : p < w.heap.size := cellLt h0
  have g0 : (w.setCell ⟨p, 1, none⟩ (.int .i32 1)).cell? ⟨p, 0, none⟩ = some (.int .u32 0) := (World.cell?_setCell_other _ _ _ _ (oneOff (by omega))).trans h0
  have g3 : (w.setCell ⟨p, 1, none⟩ (.int .i32 1)).cell? ⟨p, 3, none⟩ = some .nilIface := (World.cell?_setCell_other _ _ _ _ (oneOff (by omega))).trans h3
  have g4 : (w.setCell ⟨p, 1, none⟩ (.int .i32 1)).cell? ⟨p, 4, none⟩ = some (.slice (some ⟨c, 0, none⟩) 6 cap) := (World.cell?_setCell_other _ _ _ _ (oneOff (by omega))).trans h4
  have f3 : (w.setCell ⟨p, 1, none⟩ (.int .i32 1)).frozen? ⟨p, 3, none⟩ = false := by simp [fz]
  have f4 : (w.setCell ⟨p, 1, none⟩ (.int .i32 1)).frozen? ⟨p, 4, none⟩ = false := by simp [fz]
  have six1 : Six c (w.setCell ⟨p, 1, none⟩ (.int .i32 1)) := by
    have ne : ∀ i, (⟨p, 1, none⟩ : Addr) ≠ ⟨c, i, none⟩ := fun i e => by have := congrArg Addr.block e; simp at this; omega
    exact ⟨(World.cell?_setCell_other _ _ _ _ (ne _)).trans six.h0, (World.cell?_setCell_other _ _ _ _ (ne _)).trans six.h1, (World.cell?_setCell_other _ _ _ _ (ne _)).trans six.h2, (World.cell?_setCell_other _ _ _ _ (ne _)).trans six.h3, (World.cell?_setCell_other _ _ _ _ (ne _)).trans six.h4, (World.cell?_setCell_other _ _ _ _ (ne _)).trans six.h5⟩
  have HS := Aside0.mk six1
  clear six six1
  have hsz : (w.setCell ⟨p, 1, none⟩ (.int .i32 1)).heap.size = w.heap.size := by simp
  have HZ := Aside0.mk hsz
  clear hsz
  have hnot : ∀ (x : Bool) (w : World), (Op.unary .not (.bool x)).run Tryz.prog w = .ok (.bool (!x)) w := fun _ _ => rfl
  have hz1 := fz 1
  go_enter_defers Tryz.func59, Tryz.ntmps59
  go_wp2_with (first | (go_at_call 69; refine (on_lock ⟨p, 1, none⟩ _ h1 hz1).mono ?_; rintro e w' ⟨rfl, rfl⟩) | (go_at_call 58; refine (on_load ⟨p, 0, none⟩ _ g0).mono ?_; rintro e w' ⟨rfl, rfl⟩))
  go_at_call 53
  refine (buildOnce_walk p c cap _ g3 g4 f3 f4 HS.out).mono ?_
  rintro e w2 ⟨q, w1, rfl, hR, hB, rfl⟩
  have HF := Aside0.mk (And.intro hR hB)
  clear hR hB
  have hpl1 : p < w1.heap.size := by have := HF.out.2.size; have := HZ.out; omega
  have k0 := (HF.out.2.cell (p := ⟨p, 0, none⟩) (by rw [HZ.out]; exact hpl)).trans g0
  have k1 := (HF.out.2.cell (p := ⟨p, 1, none⟩) (by rw [HZ.out]; exact hpl)).trans (World.cell?_setCell_same w ⟨p, 1, none⟩ (.int .i32 1) h1)
  have k3 := (HF.out.2.cell (p := ⟨p, 3, none⟩) (by rw [HZ.out]; exact hpl)).trans g3
  have zf : ∀ i, w1.frozen? ⟨p, i, none⟩ = false := fun i => (HF.out.2.frozen (p := ⟨p, i, none⟩) (by rw [HZ.out]; exact hpl)).trans (by simp [fz])
  go_wp2_with fail
  refine leaves_cons (f := 71) (args := #[.pointer (some ⟨p, 0, none⟩), .bool true]) (by simp) (by simp [go_sem]) ?_
  refine (on_store_deferred ⟨p, 0, none⟩ (.int .u32 0) .returning _ ?_ (by simp [zf])).mono ?_
  · exact (World.cell?_setCell_other _ _ _ _ (oneOff (by omega))).trans ((World.cell?_setCell_other _ _ _ _ (oneOff (by omega))).trans k0)
  rintro e u' w'' ⟨rfl, rfl, rfl⟩
  refine leaves_cons (f := 70) (args := #[.pointer (some ⟨p, 1, none⟩)]) (by simp [settle]) (by simp [go_sem]) ?_
  refine (on_unlock_deferred ⟨p, 1, none⟩ _ _ ?_ (by simp [zf])).mono ?_
  · refine (World.cell?_setCell_other _ _ _ _ (oneOff (by omega))).trans ?_
    rw [World.cell?_drew]
    exact (World.cell?_setCell_other _ _ _ _ (oneOff (by omega))).trans ((World.cell?_setCell_other _ _ _ _ (oneOff (by omega))).trans k1)
  rintro e u' w'' ⟨rfl, rfl, rfl⟩
  have hR := HF.out.1
  rw [HZ.out] at hR
  have hfin : OnD p w (.returned (.tuple #[])) ((((w1.setCell ⟨p, 3, none⟩ (.iface 128 (.pointer (some ⟨q, 0, none⟩)))).setCell ⟨p, 4, none⟩ (.slice none 0 0)).drew.setCell ⟨p, 0, none⟩ (.int .u32 1)).setCell ⟨p, 1, none⟩ (.int .i32 0)) := by
    refine ⟨q, rfl, ((((hR.set ⟨p, 3, none⟩ hpl _).set ⟨p, 4, none⟩ hpl _).drew).set ⟨p, 0, none⟩ hpl _).set ⟨p, 1, none⟩ hpl _, ?_, ?_⟩
    · rw [World.cell?_setCell_other _ _ _ _ (oneOff (by omega)), World.cell?_setCell_other _ _ _ _ (oneOff (by omega)), World.cell?_drew, World.cell?_setCell_other _ _ _ _ (oneOff (by omega))]
      exact World.cell?_setCell_same _ _ _ k3
    · have b0 := ((Below.refl p w).setCell (p := ⟨p, 1, none⟩) (Nat.le_refl _) (.int .i32 1)).trans (HF.out.2.mono (by rw [HZ.out]; omega))
      exact ((((b0.setCell (p := ⟨p, 3, none⟩) (Nat.le_refl _) _).setCell (p := ⟨p, 4, none⟩) (Nat.le_refl _) _).drew).setCell (p := ⟨p, 0, none⟩) (Nat.le_refl _) _).setCell (p := ⟨p, 1, none⟩) (Nat.le_refl _) _
  simp only [Leaves, settle, results, Tryz.results59]
  exact ⟨_, by simp, hfin⟩
set_option maxRecDepth 100000 in
theorem do_walk (p c cap : Nat) (w : World) (h0 : w.cell? ⟨p, 0, none⟩ = some (.int .u32 0)) (h1 : w.cell? ⟨p, 1, none⟩ = some (.int .i32 0)) (h3 : w.cell? ⟨p, 3, none⟩ = some .nilIface) (h4 : w.cell? ⟨p, 4, none⟩ = some (.slice (some ⟨c, 0, none⟩) 6 cap))
    (fz : ∀ i, w.frozen? ⟨p, i, none⟩ = false) (six : Six c w) (hcp : c < p) :
    Calls Tryz.prog 52 #[.pointer (some ⟨p, 0, none⟩), .func (.func 53) #[.pointer (some ⟨p, 0, none⟩)] #[]] w (OnD p w) := by
  have HS := Aside0.mk six
  clear six
  have hnot : ∀ (x : Bool) (w : World), (Op.unary .not (.bool x)).run Tryz.prog w = .ok (.bool (!x)) w := fun _ _ => rfl
  go_enter Tryz.func52, Tryz.ntmps52
  go_wp2_with (go_at_call 58; refine (on_load ⟨p, 0, none⟩ _ h0).mono ?_; rintro e w' ⟨rfl, rfl⟩)
  go_at_call 59
  refine (slow_walk p c cap _ h0 h1 h3 h4 fz HS.out hcp).mono ?_
  rintro e w2 ⟨q, rfl, hR, h8, hB⟩
  have HF := Aside0.mk (And.intro hR (And.intro h8 hB))
  clear hR hB h8
  go_wp2_with fail
  go_end0
  exact ⟨q, rfl, HF.out⟩
theorem meth_Replace (q : Nat) (w : World) : (Go.method 290 128 (.pointer (some ⟨q, 0, none⟩)) "Replace").run Tryz.prog w = .ok (130, .pointer (some ⟨q, 0, none⟩)) w := by kernel_rfl
set_option maxRecDepth 100000 in
theorem repl_walk (p c cap : Nat) (s : ByteArray) (w : World) (h : RN p c cap w) (hcp : c < p) (hs : s.size ≤ 2000000000) :
    Calls Tryz.prog 42 #[.pointer (some ⟨p, 0, none⟩), .string s] w fun e w' => e = .returned (.string ⟨(parT s.data.toList).toArray⟩) ∧ Below p w w' := by
  have h0 : w.cell? ⟨p, 0, none⟩ = some (.int .u32 0) := by rw [cell_blk h.blk]; rfl
  have h1 : w.cell? ⟨p, 1, none⟩ = some (.int .i32 0) := by rw [cell_blk h.blk]; rfl
  have h3 : w.cell? ⟨p, 3, none⟩ = some .nilIface := by rw [cell_blk h.blk]; rfl
  have h4 : w.cell? ⟨p, 4, none⟩ = some (.slice (some ⟨c, 0, none⟩) 6 cap) := by rw [cell_blk h.blk]; rfl
  have fz : ∀ i, w.frozen? ⟨p, i, none⟩ = false := fun i => froz_blk h.blk i
  have HS := Aside0.mk h.six
  have hpl : p < w.heap.size := cellLt h0
  have hmf : ∀ (fn : Fn) (first cap : Array Value) (w : World), (Instr.makeFunc fn first cap).run Tryz.prog w = .ok (.func fn first cap) w := fun _ _ _ _ => rfl
  clear h
  go_enter Tryz.func42, Tryz.ntmps42
  go_wp2_with fail
  go_at_call 52
  refine (do_walk p c cap _ h0 h1 h3 h4 fz HS.out hcp).mono ?_
  rintro e w2 ⟨q, rfl, hR, h8, hB⟩
  have HF := Aside0.mk (And.intro hR hB)
  clear hR hB h0 h1 h3 h4 fz
  have hme := meth_Replace
  go_wp2_with fail
  go_at_call 130
  refine (bsr_walk q s _ HF.out.1.rt hs).mono ?_
  rintro e w3 ⟨rfl, hB3⟩
  have H3 := Aside0.mk hB3
  clear hB3
  go_wp2_with fail
  go_ret
  exact ⟨rfl, HF.out.2.trans (H3.out.mono (by have := HF.out.2.size; omega))⟩
end Go.Proofs.YtknmbalhbecdhaaGreatDoor.Print
end
section
set_option linter.unusedVariables false
set_option linter.unusedSimpArgs false
namespace Go.Proofs.YtknmbalhbecdhaaGreatDoor.Print
open Go.RowKit Go.Proofs.YtknmbalhbecdhaaGreatDoorW.PrintWords Go.Proofs.YtknmbalhbecdhaaGreatDoorW.PrintLast Go.Proofs.YtknmbalhbecdhaaGreatDoorW.PrintMore
theorem contains_quo (l : List UInt8) : Lib.containsAny l [58, 59, 44] = l.any quoB := by
  unfold Lib.containsAny
  induction l with
  | nil => rfl
  | cons b t ih =>
    have hge := Lib.indexAny_ge [58, 59, 44] t
    have hc : ([58, 59, 44] : List UInt8).contains b = quoB b := by
      simp only [List.contains, List.elem_cons, List.elem_nil, quoB, Bool.or_false]
      cases b == 58 <;> cases b == 59 <;> cases b == 44 <;> rfl
    rw [List.any_cons, ← ih, Lib.indexAny, hc]
    cases quoB b with
    | true => simp
    | false =>
      simp only [Bool.false_eq_true, if_false, Bool.false_or]
      by_cases hm : Lib.indexAny t [58, 59, 44] = -1
      · rw [hm]; rfl
      · rw [if_neg (by simpa using hm)]
        rw [decide_eq_true (by omega), decide_eq_true (by omega)]
theorem parB_quo (c : UInt8) : (parB c).any quoB = quoB c := by
  by_cases h1 : c = 94
  · subst h1; rfl
  by_cases h2 : c = 10
  · subst h2; rfl
  by_cases h3 : c = 34
  · subst h3; rfl
  unfold parB
  rw [if_neg h1, if_neg h2, if_neg h3]; simp
theorem parT_quo (l : List UInt8) : (parT l).any quoB = l.any quoB := by
  induction l with
  | nil => rfl
  | cons c t ih => rw [parT_cons, List.any_append, List.any_cons, ih, parB_quo]
theorem Param_bad (k : Nat) (s : ByteArray) (z : Int) (hz : z ≠ 0) (w : World) (hG : GG w) (hC : Aside0 (escape_Clean.f k s true = some z)) :
    Calls Tryz.prog 20 #[.string s] w fun e w' => e = .returned (.tuple #[.string ⟨#[]⟩, .int .i64 z]) ∧ Below w.heap.size w w' := by
  have hz1 : (z == 0) = false := beq_eq_false_iff_ne.2 hz
  have hz2 : (z != 0) = true := bne_iff_ne.2 hz
  clear hz
  go_enter Tryz.func20, Tryz.ntmps20
  go_wp2_with (go_at_call 25; refine (escape_Clean.calls k s true z _ hG hC.out).mono ?_; rintro e w1 ⟨rfl, hb1⟩)
  go_ret2
  exact ⟨rfl, hb1⟩
/-- The six strings, as Param lays them. -/
def sixB : Array Value := #[.string ⟨#[94]⟩, .string ⟨#[94, 94]⟩, .string ⟨#[10]⟩, .string ⟨#[94, 110]⟩, .string ⟨#[34]⟩, .string ⟨#[94, 39]⟩]
theorem six_alloc (w : World) : Six w.heap.size (w.alloc (.cells sixB 9)) := by
  constructor <;> (rw [World.cell?_alloc_at _ _ _ _ rfl]; rfl)
set_option maxHeartbeats 8000000 in
set_option maxRecDepth 100000 in
theorem Param_ok (k : Nat) (s : ByteArray) (w : World) (hG : GG w) (hs : s.size ≤ 2000000000) (hC : Aside0 (escape_Clean.f k s true = some 0)) :
    Calls Tryz.prog 20 #[.string s] w fun e w' => e = .returned (.tuple #[.string (parW s), .int .i64 0]) ∧ Below w.heap.size w w' := by
  go_enter Tryz.func20, Tryz.ntmps20
  go_wp2_with (go_at_call 25; refine (escape_Clean.calls k s true 0 _ hG hC.out).mono ?_; rintro e w1 ⟨rfl, hb1⟩; have HB1 := Aside0.mk hb1; clear hb1)
  go_at_call 41
  refine (new_walk w1.heap.size _ (six_alloc w1)).mono ?_
  rintro e w2 ⟨p, c, cap, rfl, hR, hc, hcp, hB2⟩
  have HN := Aside0.mk (And.intro hR (And.intro hc (And.intro hcp hB2)))
  clear hR hc hcp hB2
  go_wp2_with fail
  go_at_call 42
  refine (repl_walk p c cap s _ HN.out.1 HN.out.2.2.1 hs).mono ?_
  rintro e w3 ⟨rfl, hB3⟩
  have H3 : Aside0 (Below w.heap.size w w3) := ⟨by
    have b1 := HB1.out
    have b2 := HN.out.2.2.2
    have hc := HN.out.2.1
    have hcp := HN.out.2.2.1
    have e1 : (w1.alloc (.cells sixB 9)).heap.size = w1.heap.size + 1 := by simp
    have ea : w1.heap.size + 1 ≤ c := by rw [← e1]; exact hc
    refine ((b1.alloc b1.size (.cells sixB 9)).trans (b2.mono (by rw [e1]; have := b1.size; omega))).trans (hB3.mono (by have := b1.size; omega))⟩
  clear hB3
  have hpl := parT_le s.data.toList
  have hsl : s.data.toList.length = s.size := by simp
  have hps : (⟨(parT s.data.toList).toArray⟩ : ByteArray).size = (parT s.data.toList).length := by simp [ByteArray.size]
  have hcf : strings_ContainsAny.f ⟨(parT s.data.toList).toArray⟩ ⟨#[58, 59, 44]⟩ = some (s.data.toList.any quoB) := by
    unfold strings_ContainsAny.f
    rw [if_pos ⟨by rw [hps]; omega, by decide, by decide, by decide⟩]
    show some (Lib.containsAny (parT s.data.toList) [58, 59, 44]) = _
    rw [contains_quo, parT_quo]
  have HC := Aside0.mk hcf
  have HP := Aside0.mk (And.intro hpl (And.intro hsl hps))
  clear hcf hpl hsl hps
  obtain ⟨P, hP⟩ : ∃ P : ByteArray, P = ⟨(parT s.data.toList).toArray⟩ := ⟨_, rfl⟩
  rw [← hP] at HC HP ⊢
  have HPd := Aside0.mk hP
  clear hP
  by_cases hq : s.data.toList.any quoB = true
  · rw [hq] at HC
    have b1 : (9223372036854775807 < 1 + P.size) = False := eq_false (by have := HP.out; omega)
    have b2 : (9223372036854775807 < 1 + P.size + 1) = False := eq_false (by have := HP.out; omega)
    have HQ := Aside0.mk hq
    clear hq
    go_wp2_with (go_at_call 43; refine (strings_ContainsAny.calls _ _ true _ (hG.below H3.out) HC.out).mono ?_; rintro e w4 ⟨rfl, hB4⟩; have H4 := Aside0.mk hB4; clear hB4)
    go_ret2
    refine ⟨?_, H3.out.trans (H4.out.mono H3.out.size)⟩
    have : parW s = ⟨#[34]⟩ ++ P ++ ⟨#[34]⟩ := by
      unfold parW parL
      rw [if_pos HQ.out, HPd.out]
      rfl
    rw [this]; rfl
  · rw [Bool.not_eq_true] at hq
    rw [hq] at HC
    have HQ := Aside0.mk hq
    clear hq
    go_wp2_with (go_at_call 43; refine (strings_ContainsAny.calls _ _ false _ (hG.below H3.out) HC.out).mono ?_; rintro e w4 ⟨rfl, hB4⟩; have H4 := Aside0.mk hB4; clear hB4)
    go_ret2
    refine ⟨?_, H3.out.trans (H4.out.mono H3.out.size)⟩
    have : parW s = P := by
      unfold parW parL
      rw [if_neg (by rw [HQ.out]; simp), HPd.out]
    rw [this]; rfl
theorem escape_Param.calls (k : Nat) (a0 : ByteArray) (r1 : ByteArray) (r2 : Int) (w : World) (hG : GG w) (h : escape_Param.f k a0 = some (r1, r2)) :
    Calls Tryz.prog 20 #[.string a0] w fun e w' => e = .returned (.tuple #[.string r1, .int .i64 r2]) ∧ Below w.heap.size w w' := by
  unfold escape_Param.f at h
  obtain ⟨z, hz, h⟩ := Option.bind_eq_some_iff.1 h
  by_cases h0 : z = 0
  · rw [if_pos h0] at h
    subst h0
    by_cases hs : a0.size ≤ 2000000000
    · rw [if_pos hs] at h
      obtain ⟨rfl, rfl⟩ := Prod.mk.inj (Option.some.inj h)
      exact Param_ok k a0 w hG hs ⟨hz⟩
    · rw [if_neg hs] at h; cases h
  · rw [if_neg h0] at h
    obtain ⟨rfl, rfl⟩ := Prod.mk.inj (Option.some.inj h)
    exact Param_bad k a0 _ h0 w hG ⟨hz⟩
end Go.Proofs.YtknmbalhbecdhaaGreatDoor.Print
end
section
set_option linter.unusedVariables false
set_option linter.unusedSimpArgs false
namespace Go.Proofs.YtknmbalhbecdhaaGreatDoor.Print
open Go.RowKit Go.Proofs.YtknmbalhbecdhaaGreatDoorW.PrintWords Go.Proofs.YtknmbalhbecdhaaGreatDoorW.PrintLast Go.Proofs.YtknmbalhbecdhaaGreatDoorW.PrintMore
/-- A parameter's values, each with the byte ahead of it. -/
def valsT : List ByteArray → UInt8 → List UInt8
  | [], _ => []
  | v :: t, b => b :: parL v.data.toList ++ valsT t 44
def parsT : List S53 → List UInt8
  | [] => []
  | p :: t => 59 :: p.f0.data.toList ++ valsT p.f1 61 ++ parsT t
def lineT (nm : ByteArray) (l : List S53) (v : ByteArray) : List UInt8 := nm.data.toList ++ parsT l ++ 58 :: v.data.toList
def cleanAll (k : Nat) (l : List S53) : Bool := l.all fun p => p.f1.all fun x => decide (escape_Clean.f k x true = some 0)
def lineR (nm : ByteArray) (l : List S53) (v : ByteArray) : ByteArray × Int := if 2000 < (lineT nm l v).length then (⟨#[]⟩, 4) else (⟨(lineT nm l v).toArray⟩, 0)
def line_Print.f (k : Nat) (nm : ByteArray) (l : List S53) (v : ByteArray) : Option (ByteArray × Int) :=
  (line_Formed.f k nm l v).bind fun ok => if ok = true then (if cleanAll k l = true ∧ (lineT nm l v).length ≤ 1000000000 then some (lineR nm l v) else none) else some (⟨#[]⟩, 1)
theorem print_bad (k : Nat) (nm : ByteArray) (A : Option Addr) (c : Nat) (l : List S53) (v : ByteArray) (w : World) (hG : GG w) (hr : Kd.C k53 w A l.length l) (hc : l.length ≤ c) (h : line_Formed.f k nm l v = some false) :
    Calls Tryz.prog 8 #[.agg #[.string nm, .slice A l.length c, .string v]] w fun e w' => e = .returned (.tuple #[.string ⟨#[]⟩, .int .i64 1]) ∧ Below w.heap.size w w' := by
  have H := Aside0.mk h
  have hnot : ∀ (x : Bool) (w : World), (Op.unary .not (.bool x)).run Tryz.prog w = .ok (.bool (!x)) w := fun _ _ => rfl
  clear h
  go_enter Tryz.func8, Tryz.ntmps8
  go_wp2_with fail
  go_at_call 11
  refine (line_Formed.calls k nm A c l v false _ (hG.alloc _) (Kd.C_below hr (below_alloc (Below.refl _ _) _)) hc H.out).mono ?_
  rintro e w1 ⟨rfl, hB⟩
  have HB := Aside0.mk ((below_alloc (Below.refl _ _) _).trans (hB.mono (by simp)))
  clear hB
  go_wp2_with fail
  go_ret2
  exact ⟨rfl, HB.out⟩
theorem parL_len (l : List UInt8) : l.length ≤ (parL l).length := by
  have h : l.length ≤ (parT l).length := by
    induction l with
    | nil => simp [parT]
    | cons c t ih =>
      rw [parT_cons, List.length_append, List.length_cons]
      have : 1 ≤ (parB c).length := by unfold parB; split <;> (try split) <;> (try split) <;> simp
      omega
  unfold parL; split
  · simp; omega
  · exact h
theorem valsT_at (l : List ByteArray) (b : UInt8) (i : Nat) (hi : i < l.length) : valsT (l.drop i) b = b :: parL l[i].data.toList ++ valsT (l.drop (i + 1)) 44 := by
  rw [List.drop_eq_getElem_cons hi]; rfl
theorem parsT_at (l : List S53) (i : Nat) (hi : i < l.length) : parsT (l.drop i) = 59 :: l[i].f0.data.toList ++ valsT l[i].f1 61 ++ parsT (l.drop (i + 1)) := by
  rw [List.drop_eq_getElem_cons hi]; rfl
theorem gblkc {w : World} {g : Nat} {cs : Array Value} {t : TypeId} {fr : Nat × Nat} (h : w.heap[g]? = some (.cells cs t fr)) (j : Nat) : w.cell? ⟨g, j, none⟩ = cs[j]? := by simp [World.cell?, h]
theorem kept53 {b g : Nat} {w w' : World} {cs : Array Value} {t : TypeId} (h : Lib.OthersKept 5 (some b) w w') (hg : w.heap[g]? = some (.cells cs t (0, 0))) (ht : t ≠ 5) (hgb : g ≠ b) : w'.heap[g]? = some (.cells cs t (0, 0)) := h g _ hg (by intro e; injection e with e; exact hgb e) (by intro c fz e; injection e with _ e2; exact ht e2)
set_option maxHeartbeats 800000 in
set_option maxRecDepth 100000 in
theorem print_ok (k : Nat) (nm : ByteArray) (A : Option Addr) (c : Nat) (l : List S53) (v : ByteArray) (w : World) (hG : GG w) (hr : Kd.C k53 w A l.length l) (hc : l.length ≤ c) (h : line_Formed.f k nm l v = some true) (hcl : cleanAll k l = true) (hlen : (lineT nm l v).length ≤ 1000000000) :
    Calls Tryz.prog 8 #[.agg #[.string nm, .slice A l.length c, .string v]] w fun e w' => e = .returned (.tuple #[.string (lineR nm l v).1, .int .i64 (lineR nm l v).2]) ∧ Below w.heap.size w w' := by
  have H := Aside0.mk h
  have HC := Aside0.mk hcl
  have HR := Aside0.mk hr
  have HLE := Aside0.mk hlen
  have hlm := hr.2.1
  have hnot : ∀ (x : Bool) (w : World), (Op.unary .not (.bool x)).run Tryz.prog w = .ok (.bool (!x)) w := fun _ _ => rfl
  clear h hcl hlen
  obtain ⟨n, hn⟩ : ∃ n, n = l.length := ⟨_, rfl⟩
  have HN := Aside0.mk hn
  clear hr
  rw [← hn] at hlm hc ⊢
  clear hn
  go_enter Tryz.func8, Tryz.ntmps8
  go_wp2_with fail
  go_at_call 11
  rw [HN.out]
  refine (line_Formed.calls k nm A c l v true _ (hG.alloc _) (Kd.C_below HR.out (below_alloc (Below.refl _ _) _)) (by have := HN.out; omega) H.out).mono ?_
  rintro e w1 ⟨rfl, hB⟩
  rw [← HN.out]
  obtain ⟨X, hX⟩ : ∃ X, X = w.heap.size := ⟨_, rfl⟩
  have HB := Aside0.mk ((below_alloc (Below.refl w.heap.size w) _).trans (hB.mono (by simp)))
  have hbx : w1.heap[X]? = some (.cells #[.string nm, .slice A n c, .string v] 32 (0, 0)) := by
    rw [HN.out, hX]; exact (hB.block w.heap.size (by simp)).trans (heap_alloc_new w _)
  have HXB := Aside0.mk hbx
  have hXl : X < w1.heap.size := (Array.getElem?_eq_some_iff.1 hbx).1
  rw [← hX]
  have HXs := Aside0.mk hX
  clear hB hX
  have x0 := gblkc hbx 0
  have x1 := gblkc hbx 1
  have x2 := gblkc hbx 2
  clear hbx
  go_wp2_with fail
  obtain ⟨B, hBd⟩ : ∃ B, B = w1.heap.size := ⟨_, rfl⟩
  have HBd := Aside0.mk hBd
  have HH0 : Aside0 (Bld.Has B B [] (w1.alloc (.cells #[.pointer none, .slice none 0 0] 48))) := ⟨by rw [hBd]; exact Bld.Has.new _ _ (Nat.le_refl _)⟩
  have HB0 : Aside0 (Below B w1 (w1.alloc (.cells #[.pointer none, .slice none 0 0] 48))) := ⟨by rw [hBd]; exact (Below.refl _ _).alloc (Nat.le_refl _) _⟩
  rw [← hBd]
  have hXB : X < B := by omega
  clear hBd
  have HPL : Aside0 (nm.data.toList.length + (parsT l).length + 1 + v.size ≤ 1000000000) := ⟨by
    have := HLE.out; unfold lineT at this; rw [List.length_append, List.length_append, List.length_cons] at this
    have e : v.data.toList.length = v.size := by simp
    omega⟩
  go_at_call 19
  refine (Bld.ws B B [] nm _ HH0.out (by have := HPL.out; have e : nm.data.toList.length = nm.size := by simp
                                         simp only [List.length_nil]; omega) (by have := HBd.out; simp; omega)).mono ?_
  rintro e w2 ⟨rfl, hH2, hB2, _⟩
  have HH2 := Aside0.mk hH2
  have HB2 := Aside0.mk (HB0.out.trans hB2)
  clear hH2 hB2 HH0 HB0
  have HXC := Aside0.mk x2
  have y1 := (HB2.out.cell (p := ⟨X, 1, none⟩) hXB).trans x1
  have y2 := (HB2.out.cell (p := ⟨X, 2, none⟩) hXB).trans x2
  clear x0 x1 x2
  go_wp2_with fail
  rw [List.nil_append] at HH2
  go_loopg [21] n (fun g v21 wr => ∃ i : Nat, v21 = .int .i64 i ∧ i ≤ n ∧ Aside0 (n ≤ i + g) ∧ Aside0 (∃ acc, Bld.Has B B acc wr ∧ acc ++ parsT (l.drop i) = nm.data.toList ++ parsT l) ∧ Aside0 (Below B w1 wr))
  case atStart => exact ⟨0, rfl, by omega, ⟨by omega⟩, ⟨_, HH2.out, by rw [List.drop_zero]⟩, HB2⟩
  case round =>
    obtain ⟨i, rfl, hi, HI, HH, HBr⟩ := hrel
    obtain ⟨acc, hH, hacc⟩ := HH.out
    have HHr := Aside0.mk hH
    have HAC := Aside0.mk hacc
    clear hH hacc HH2 HB2
    by_cases hlt : i < n
    · cases gk with
      | zero => exfalso; have := HI.out; omega
      | succ g =>
      have hil : i < l.length := by have := HN.out; omega
      obtain ⟨b0, o0, A2, c2, e0, p0, p1, hc2, hC2⟩ := par_at (Kd.C_below HR.out HB.out) i hil
      subst e0
      have hpt := parsT_at l i hil
      obtain ⟨p, hp⟩ : ∃ p, p = l[i] := ⟨_, rfl⟩
      have hpd : l.getD i z53 = p := by rw [List.getD_eq_getElem?_getD, List.getElem?_eq_getElem hil, hp]; rfl
      rw [hpd] at p0 p1 hc2 hC2
      rw [← hp] at hpt
      have HPT := Aside0.mk hpt
      have HCL : Aside0 (∀ x ∈ p.f1, escape_Clean.f k x true = some 0) := ⟨fun x hx => by
        have h1 := List.all_eq_true.1 HC.out p (by rw [hp]; exact List.getElem_mem hil)
        exact of_decide_eq_true (List.all_eq_true.1 h1 x hx)⟩
      have hbl : b0 < w1.heap.size := cellLt0 p0
      have hbB : b0 < B := by have := HBd.out; omega
      have q0 := (HBr.out.cell (p := ⟨b0, o0 + i * 2, none⟩) hbB).trans p0
      have q1 := (HBr.out.cell (p := ⟨b0, o0 + i * 2 + 1, none⟩) hbB).trans p1
      have HCV := Aside0.mk hC2
      have hsm := hC2.2.1
      have HSZ : Aside0 (acc.length + (1 + p.f0.size + (valsT p.f1 61).length + (parsT (l.drop (i + 1))).length) ≤ 1000000000) := ⟨by
        have e := congrArg List.length HAC.out
        rw [HPT.out] at e
        simp only [List.length_append, List.length_cons] at e
        have e2 : p.f0.data.toList.length = p.f0.size := by simp
        have := HPL.out
        omega⟩
      have b1 : (9223372036854775807 < 1 + p.f0.size) = False := eq_false (by have := HSZ.out; omega)
      have hwB : B ≤ wr.heap.size := by have := HBr.out.size; have := HBd.out; omega
      obtain ⟨m, hm⟩ : ∃ m, m = p.f1.length := ⟨_, rfl⟩
      have HM := Aside0.mk hm
      rw [← hm] at q1 hsm
      clear hp hpd hpt hc2 hC2 p0 p1 hbl hm y1 y2
      go_wp2_with fail
      go_at_call 19
      refine (Bld.ws B B acc _ _ (HHr.out.below (below_alloc (Below.refl _ _) _)) (by have := HSZ.out; rw [ByteArray.size_append]; show acc.length + (1 + p.f0.size) ≤ _; omega) (by simp; omega)).mono ?_
      rintro e w3 ⟨rfl, hH3, hB3, hk3⟩
      obtain ⟨Pb, hPb⟩ : ∃ Pb, Pb = wr.heap.size := ⟨_, rfl⟩
      have hpb : w3.heap[Pb]? = some (.cells #[.string p.f0, .slice A2 m c2] 53 (0, 0)) := by
        rw [hPb]
        exact kept53 hk3 (heap_alloc_new wr _) (by decide) (by have := HHr.out.lt; omega)
      have z1 := gblkc hpb 1
      have HH3 : Aside0 (Bld.Has B B (acc ++ [59] ++ p.f0.data.toList) w3) := ⟨by
        have e : (⟨#[59]⟩ ++ p.f0 : ByteArray).data.toList = [59] ++ p.f0.data.toList := by simp
        rw [e, ← List.append_assoc] at hH3; exact hH3⟩
      have HB3 := Aside0.mk ((HBr.out.alloc hwB _).trans hB3)
      rw [← hPb]
      clear hH3 hB3 hk3 hpb hPb q0 q1 b1
      go_wp2_with fail
      go_loopg [7, 9, 10, 11, 32] m (fun g2 v7 v9 v10 v11 v32 wr => ∃ j : Nat, v32 = .int .i64 j ∧ j ≤ m ∧ v7 = .int .u8 (if j = 0 then 61 else 44) ∧ Aside0 (m ≤ j + g2) ∧ Aside0 (∃ acc2, Bld.Has B B acc2 wr ∧ acc2 ++ valsT (p.f1.drop j) (if j = 0 then 61 else 44) = acc ++ [59] ++ p.f0.data.toList ++ valsT p.f1 61) ∧ Aside0 (Below B w1 wr))
      case atStart => exact ⟨0, rfl, by omega, rfl, ⟨by omega⟩, ⟨_, HH3.out, by rw [List.drop_zero]; rfl⟩, HB3⟩
      case round =>
        obtain ⟨j, rfl, hj, rfl, HJ, HH4, HB4⟩ := hrel
        obtain ⟨acc2, hH4, hacc2⟩ := HH4.out
        have HHj := Aside0.mk hH4
        have HAj := Aside0.mk hacc2
        clear hH4 hacc2 HH3 HB3
        obtain ⟨by', hby⟩ : ∃ by' : UInt8, ((by'.toNat : Nat) : Int) = (if j = 0 then 61 else 44) ∧ (if j = 0 then (61 : UInt8) else 44) = by' := ⟨if j = 0 then 61 else 44, by split <;> rfl, rfl⟩
        have HBY := Aside0.mk hby
        rw [← hby.1]
        clear hby
        by_cases hlt2 : j < m
        · cases gk with
          | zero => exfalso; have := HJ.out; omega
          | succ g2 =>
          have hjl : j < p.f1.length := by have := HM.out; omega
          have hb14 : Below w1.heap.size w1 wr := by have h := HB4.out; rw [HBd.out] at h; exact h
          obtain ⟨b5, o5, rfl, hcs⟩ := strs_row (Kd.C_below HCV.out hb14) (by intro e; rw [e] at hjl; simp at hjl)
          have hc5 := hcs j hjl
          have hvt := valsT_at p.f1 (if j = 0 then 61 else 44) j hjl
          obtain ⟨x, hx⟩ : ∃ x, x = p.f1[j] := ⟨_, rfl⟩
          have hxd : p.f1.getD j ByteArray.empty = x := by rw [List.getD_eq_getElem?_getD, List.getElem?_eq_getElem hjl, hx]; rfl
          rw [hxd] at hc5
          rw [← hx] at hvt
          have HVT := Aside0.mk hvt
          have hcx := HCL.out x (by rw [hx]; exact List.getElem_mem hjl)
          have HSj : Aside0 (acc2.length + (1 + (parL x.data.toList).length) ≤ 1000000000) := ⟨by
            have e := congrArg List.length HAj.out
            rw [HVT.out] at e
            simp only [List.length_append, List.length_cons, List.length_nil] at e
            have e2 : p.f0.data.toList.length = p.f0.size := by simp
            have := HSZ.out
            omega⟩
          have HPF : Aside0 (escape_Param.f k x = some (parW x, 0)) := ⟨by
            unfold escape_Param.f
            rw [hcx, Option.bind_some, if_pos rfl, if_pos]
            have h1 := parL_len x.data.toList
            have e : x.data.toList.length = x.size := by simp
            have := HSj.out
            omega⟩
          have hwB2 : B ≤ wr.heap.size := by have := HB4.out.size; have := HBd.out; omega
          have hGw : GG wr := hG.below (HB.out.trans (hb14.mono HB.out.size))
          clear hx hxd hvt hcx hcs hb14
          go_wp2_with fail
          go_at_call 20
          refine (escape_Param.calls k x (parW x) 0 _ hGw HPF.out).mono ?_
          rintro e w5 ⟨rfl, hB5⟩
          have HH5 := Aside0.mk (HHj.out.below hB5)
          have HB5 := Aside0.mk (HB4.out.trans (hB5.mono hwB2))
          have hwB5 : B ≤ w5.heap.size := by have := hB5.size; omega
          clear hB5 hGw
          go_wp2_with fail
          go_at_call 21
          refine (Bld.wb B B acc2 _ by' rfl _ HH5.out (by have := HSj.out; omega) hwB5).mono ?_
          rintro e w6 ⟨rfl, hH6, hB6, _⟩
          have HH6 := Aside0.mk hH6
          have HB6 := Aside0.mk (HB5.out.trans hB6)
          have hwB6 : B ≤ w6.heap.size := by have := hB6.size; omega
          clear hH6 hB6
          go_wp2_with fail
          go_at_call 19
          refine (Bld.ws B B (acc2 ++ [by']) (parW x) _ HH6.out (by have := HSj.out; have e : (parW x).size = (parL x.data.toList).length := by simp [parW, ByteArray.size]
                                                                    rw [List.length_append, List.length_singleton]; omega) hwB6).mono ?_
          rintro e w7 ⟨rfl, hH7, hB7, _⟩
          have HH7 := Aside0.mk hH7
          have HB7 := Aside0.mk (HB6.out.trans hB7)
          clear hH7 hB7
          go_wp2_with fail
          go_roundg g2
          case measure => have := HJ.out; omega
          case rel =>
            refine ⟨j + 1, by first | rfl | (go_num; done), by omega, by rw [if_neg (by omega)], ⟨by have := HJ.out; omega⟩, ⟨_, HH7.out, ?_⟩, HB7⟩
            rw [← HAj.out, HVT.out, HBY.out.2, if_neg (by omega)]
            simp [parW]
        · have hjm : j = m := by omega
          have HACC : Aside0 (acc2 ++ parsT (l.drop (i + 1)) = nm.data.toList ++ parsT l) := ⟨by
            have e := HAj.out
            rw [List.drop_eq_nil_of_le (by have := HM.out; omega)] at e
            rw [← HAC.out, HPT.out]
            simp only [valsT, List.append_nil] at e
            rw [e]
            simp⟩
          clear hjm
          go_wp2_with fail
          go_roundg g
          case measure => have := HI.out; omega
          case rel => exact ⟨i + 1, by first | rfl | (go_num; done), by omega, ⟨by have := HI.out; omega⟩, ⟨acc2, HHj.out, HACC.out⟩, HB4⟩
    · have hin : i = n := by omega
      have HACC : Aside0 (acc = nm.data.toList ++ parsT l) := ⟨by
        have e := HAC.out
        rw [List.drop_eq_nil_of_le (by have := HN.out; omega)] at e
        simpa [parsT] using e⟩
      have r2 := (HBr.out.cell (p := ⟨X, 2, none⟩) hXB).trans (HXC.out)
      have b1 : (9223372036854775807 < 1 + v.size) = False := eq_false (by have := HPL.out; omega)
      have hwB : B ≤ wr.heap.size := by have := HBr.out.size; have := HBd.out; omega
      clear hin y1 y2
      go_wp2_with fail
      go_at_call 19
      refine (Bld.ws B B acc _ _ HHr.out (by rw [HACC.out, ByteArray.size_append, List.length_append]; have := HPL.out; show _ + (1 + v.size) ≤ _; omega) hwB).mono ?_
      rintro e w3 ⟨rfl, hH3, hB3, _⟩
      have HH3 : Aside0 (Bld.Has B B (lineT nm l v) w3) := ⟨by
        have e : (⟨#[58]⟩ ++ v : ByteArray).data.toList = 58 :: v.data.toList := by simp
        rw [e, HACC.out] at hH3; exact hH3⟩
      have HB3 := Aside0.mk (HBr.out.trans hB3)
      have hwB3 : B ≤ w3.heap.size := by have := hB3.size; omega
      have hfin : ∀ w', Below B w1 w' → Below w.heap.size w w' := fun w' h => HB.out.trans (h.mono (by have := HBd.out; have := HB.out.size; omega))
      clear hH3 hB3 r2 b1
      obtain ⟨L, hL⟩ : ∃ L : Nat, L = (lineT nm l v).length := ⟨_, rfl⟩
      have HL := Aside0.mk hL
      clear hL
      by_cases hl2 : (2000 : Int) < (L : Int)
      · have hR : lineR nm l v = (⟨#[]⟩, 4) := by unfold lineR; rw [if_pos (by have := HL.out; omega)]
        have d1 : decide ((2000 : Int) < (L : Int)) = true := decide_eq_true hl2
        have HRR := Aside0.mk hR
        clear hR
        go_wp2_with fail
        go_at_call 22
        refine (Bld.len _ _ _ _ HH3.out).mono ?_
        rintro e w4 ⟨rfl, hw4⟩
        rw [hw4, ← HL.out]
        clear hw4
        go_wp2_with fail
        go_ret2
        exact ⟨by rw [HRR.out]; rfl, hfin _ HB3.out⟩
      · have hR : lineR nm l v = (⟨(lineT nm l v).toArray⟩, 0) := by unfold lineR; rw [if_neg (by have := HL.out; omega)]
        have d1 : decide ((2000 : Int) < (L : Int)) = false := decide_eq_false hl2
        have HRR := Aside0.mk hR
        clear hR
        go_wp2_with fail
        go_at_call 22
        refine (Bld.len _ _ _ _ HH3.out).mono ?_
        rintro e w4 ⟨rfl, hw4⟩
        rw [hw4, ← HL.out]
        clear hw4
        go_wp2_with fail
        go_at_call 23
        refine (Bld.str _ _ _ _ HH3.out hwB3).mono ?_
        rintro e w5 ⟨rfl, _, hB5, _⟩
        have HB5 := Aside0.mk (HB3.out.trans hB5)
        clear hB5
        go_wp2_with fail
        go_ret2
        exact ⟨by rw [HRR.out]; rfl, hfin _ HB5.out⟩
theorem line_Print.calls (k : Nat) (a0_0 : ByteArray) (A0_1 : Option Addr) (c0_1 : Nat) (l0_1 : List S53) (a0_2 : ByteArray) (r1 : ByteArray) (r2 : Int) (w : World) (hG : GG w) (hr0_1 : Kd.C k53 w A0_1 l0_1.length l0_1) (hc0_1 : l0_1.length ≤ c0_1) (h : line_Print.f k a0_0 l0_1 a0_2 = some (r1, r2)) :
    Calls Tryz.prog 8 #[.agg #[.string a0_0, .slice A0_1 l0_1.length c0_1, .string a0_2]] w fun e w' => e = .returned (.tuple #[.string r1, .int .i64 r2]) ∧ Below w.heap.size w w' := by
  unfold line_Print.f at h
  obtain ⟨ok, hok, h⟩ := Option.bind_eq_some_iff.1 h
  cases ok with
  | false =>
    rw [if_neg (by decide)] at h
    have hp := print_bad k a0_0 A0_1 c0_1 l0_1 a0_2 w hG hr0_1 hc0_1 hok
    obtain ⟨rfl, rfl⟩ := Prod.mk.inj (Option.some.inj h)
    exact hp
  | true =>
    rw [if_pos rfl] at h
    by_cases hg : cleanAll k l0_1 = true ∧ (lineT a0_0 l0_1 a0_2).length ≤ 1000000000
    · rw [if_pos hg] at h
      have hp := print_ok k a0_0 A0_1 c0_1 l0_1 a0_2 w hG hr0_1 hc0_1 hok hg.1 hg.2
      rw [Option.some.inj h] at hp
      exact hp
    · rw [if_neg hg] at h; exact absurd h (by simp)
end Go.Proofs.YtknmbalhbecdhaaGreatDoor.Print
end
section
namespace Go.Proofs.YtknmbalhbecdhaaGreatDoor.Print
open Go.RowKit Go.Proofs.YtknmbalhbecdhaaGreatDoorW.PrintWords Go.Proofs.YtknmbalhbecdhaaGreatDoorW.PrintLast Go.Proofs.YtknmbalhbecdhaaGreatDoorW.PrintMore
attribute [local go_sem] max2_int min2_int max_two min_two max_three min_three max_four min_four   -- for this text's walks alone
set_option linter.unusedVariables false
set_option linter.unusedSimpArgs false
def trystlaw10_LineAgain.j0 : Nat → ByteArray → Bool → Option (Bool)
  | 0, _, _ => none
  | k + 1, x0, x17 => if x17 = true then ((trystlaw10_awake.f k).bind fun t226 => (some t226)) else ((line_Parse.f k x0).bind fun bt227 => (if bt227.2.2.2.2 = 0 then ((line_Print.f k bt227.1 bt227.2.1 bt227.2.2.1).bind fun bt235 => ((line_Parse.f k bt235.1).bind fun bt237 => ((line_Formed.f k bt227.1 bt227.2.1 bt227.2.2.1).bind fun t245 => (if t245 = true then (if bt235.2 = 4 then (if bt235.1.toList = ([] : List UInt8) then (some true) else (if bt235.2 = 0 then (if bt237.2.2.2.2 = 0 then ((line_Equal.f bt227.1 bt227.2.1 bt227.2.2.1 bt237.1 bt237.2.1 bt237.2.2.1).bind fun t246 => (some t246)) else (some false)) else (some false))) else (if bt235.2 = 0 then (if bt237.2.2.2.2 = 0 then ((line_Equal.f bt227.1 bt227.2.1 bt227.2.2.1 bt237.1 bt237.2.1 bt237.2.2.1).bind fun t247 => (some t247)) else (some false)) else (some false))) else (some false))))) else (some true)))
def trystlaw10_LineAgain.f (k : Nat) (a0 : ByteArray) : Option (Bool) := (trystlaw10_awake.f k).bind fun t225 => (if t225 = true then (trystlaw10_LineAgain.j0 k a0 (decide ((a0.size : Int) > 3000))) else (trystlaw10_LineAgain.j0 k a0 true))
set_option maxHeartbeats 8000000 in
set_option maxRecDepth 100000 in
theorem trystlaw10_LineAgain.calls (k : Nat) (a0 : ByteArray) (r : Bool) (w : World) (hG : GG w) (h : trystlaw10_LineAgain.f k a0 = some r) :
    Calls Tryz.prog 5 #[.string a0] w fun e w' => e = .returned (.bool r) ∧ Below w.heap.size w w' := by
  have hu32 := Tryz.underlying32
  have HB := Aside0.mk (Below.refl w.heap.size w)
  have H : ((trystlaw10_awake.f k).bind fun t225 => (if t225 = true then (trystlaw10_LineAgain.j0 k a0 (decide ((a0.size : Int) > 3000))) else (trystlaw10_LineAgain.j0 k a0 true))) = some r := h
  clear h
  have HC2 := Aside0.mk H
  clear H
  go_enter Tryz.func5, Tryz.ntmps5
  go_upto_region 1 with (fail)
  go_cut [17] (fun v17 wc => ∃ (kq : Nat) (x17_1 : Bool), v17 = .bool x17_1 ∧ Aside0 (trystlaw10_LineAgain.j0 kq a0 x17_1 = some r) ∧ Aside0 (kq ≤ k) ∧ Aside0 (Below w.heap.size w wc))
  case first =>
    have H := HC2.out
    clear HC2
    replace H := Option.bind_eq_some_iff.mp H
    obtain ⟨t225, A30, H⟩ := H
    replace H : (if t225 = true then (trystlaw10_LineAgain.j0 k a0 (decide ((a0.size : Int) > 3000))) else (trystlaw10_LineAgain.j0 k a0 true)) = some r := H
    have A3 := Aside0.mk A30
    clear A30
    by_cases c4 : t225 = true
    · subst c4
      have H1 : (trystlaw10_LineAgain.j0 k a0 (decide ((a0.size : Int) > 3000))) = some r := by rw [if_pos rfl] at H; exact H
      clear H
      have H := H1
      clear H1
      have H' := Aside0.mk H
      clear H
      go_wp2_with (first | ((with_reducible refine gate_callee (f := 6) rfl ?_); refine goesL_ (some 11) rfl rfl Tryz.func6 (by kernel_rfl) rfl #[] rfl (by (try simp only [List.map_toArray, List.map_cons, List.map_nil]); first | done | rfl | (simp only [List.length_drop, List.length_take]; rfl)) ?_; (with_reducible refine (trystlaw10_awake.calls k  true _ (by first | (with_reducible exact hG) | exact GG.below hG (by repeat (first | (with_reducible first | exact HB.out | apply below_alloc | apply pw_below_drewN | apply below_drew1) | exact HB.out))) A3.out).mono ?_); rintro e w5 ⟨rfl, hb⟩; refine ⟨_, rfl, ?_⟩; have n0_ := Aside0.mk (below_step (by repeat (first | (with_reducible first | exact HB.out | apply below_alloc | apply pw_below_drewN | apply below_drew1) | exact HB.out)) hb); clear HB; have HB := n0_; clear n0_; (try clear hb); (try clear hb2); (try clear hk); (try clear hi)))
      go_meet
      case rel => exact ⟨_, (decide ((a0.size : Int) > 3000)), (by first | rfl | (simp; done) | (simp [bne_nil_isEmpty, beq_nil_isEmpty]; done) | (simp [*]; done)), H', ⟨by first | omega | exact Nat.le_refl _⟩, ⟨by repeat (first | (with_reducible first | exact HB.out | apply below_alloc | apply pw_below_drewN | apply below_drew1) | exact HB.out)⟩⟩
    · replace c4 := Bool.eq_false_iff.mpr c4
      subst c4
      have H1 : (trystlaw10_LineAgain.j0 k a0 true) = some r := by rw [if_neg (show ¬ (false = true) by decide)] at H; exact H
      clear H
      have H := H1
      clear H1
      have H' := Aside0.mk H
      clear H
      go_wp2_with (first | ((with_reducible refine gate_callee (f := 6) rfl ?_); refine goesL_ (some 11) rfl rfl Tryz.func6 (by kernel_rfl) rfl #[] rfl (by (try simp only [List.map_toArray, List.map_cons, List.map_nil]); first | done | rfl | (simp only [List.length_drop, List.length_take]; rfl)) ?_; (with_reducible refine (trystlaw10_awake.calls k  false _ (by first | (with_reducible exact hG) | exact GG.below hG (by repeat (first | (with_reducible first | exact HB.out | apply below_alloc | apply pw_below_drewN | apply below_drew1) | exact HB.out))) A3.out).mono ?_); rintro e w6 ⟨rfl, hb⟩; refine ⟨_, rfl, ?_⟩; have n0_ := Aside0.mk (below_step (by repeat (first | (with_reducible first | exact HB.out | apply below_alloc | apply pw_below_drewN | apply below_drew1) | exact HB.out)) hb); clear HB; have HB := n0_; clear n0_; (try clear hb); (try clear hb2); (try clear hk); (try clear hi)))
      go_meet
      case rel => exact ⟨_, (true), (by first | rfl | (simp; done) | (simp [bne_nil_isEmpty, beq_nil_isEmpty]; done) | (simp [*]; done)), H', ⟨by first | omega | exact Nat.le_refl _⟩, ⟨by repeat (first | (with_reducible first | exact HB.out | apply below_alloc | apply pw_below_drewN | apply below_drew1) | exact HB.out)⟩⟩
  case rest =>
    clear HC2
    try clear p2
    try clear c4
    try clear c5
    try clear c6
    obtain ⟨kq, x17_1, rfl, HA, HJ1, HB⟩ := hcut
    cases kq with
    | zero => exact absurd HA.out (by simp [trystlaw10_LineAgain.j0])
    | succ kj1 =>
      have H := HA.out
      clear HA
      simp only [trystlaw10_LineAgain.j0] at H
      by_cases c7 : x17_1 = true
      · subst c7
        have H1 : ((trystlaw10_awake.f kj1).bind fun t226 => (some t226)) = some r := by rw [if_pos rfl] at H; exact H
        clear H
        have H := H1
        clear H1
        replace H := Option.bind_eq_some_iff.mp H
        obtain ⟨t226, A80, H⟩ := H
        replace H : (some t226) = some r := H
        have A8 := Aside0.mk A80
        clear A80
        obtain rfl := Option.some.inj H
        go_wp2_with (first | ((with_reducible refine gate_callee (f := 6) rfl ?_); refine goesL_ (some 18) rfl rfl Tryz.func6 (by kernel_rfl) rfl #[] rfl (by (try simp only [List.map_toArray, List.map_cons, List.map_nil]); first | done | rfl | (simp only [List.length_drop, List.length_take]; rfl)) ?_; (with_reducible refine (trystlaw10_awake.calls kj1  t226 _ (by first | (with_reducible exact hG) | exact GG.below hG (by repeat (first | (with_reducible first | exact HB.out | apply below_alloc | apply pw_below_drewN | apply below_drew1) | exact HB.out))) A8.out).mono ?_); rintro e w9 ⟨rfl, hb⟩; refine ⟨_, rfl, ?_⟩; have n0_ := Aside0.mk (below_step (by repeat (first | (with_reducible first | exact HB.out | apply below_alloc | apply pw_below_drewN | apply below_drew1) | exact HB.out)) hb); clear HB; have HB := n0_; clear n0_; (try clear hb); (try clear hb2); (try clear hk); (try clear hi)))
        go_ret
        exact ⟨by first | rfl | (simp [errW_none, errW_some] <;> rfl) | (simp [*, errW_none, errW_some] <;> rfl), by repeat (first | (with_reducible first | exact HB.out | apply below_alloc | apply pw_below_drewN | apply below_drew1) | exact HB.out)⟩
      · replace c7 := Bool.eq_false_iff.mpr c7
        subst c7
        have H1 : ((line_Parse.f kj1 a0).bind fun bt227 => (if bt227.2.2.2.2 = 0 then ((line_Print.f kj1 bt227.1 bt227.2.1 bt227.2.2.1).bind fun bt235 => ((line_Parse.f kj1 bt235.1).bind fun bt237 => ((line_Formed.f kj1 bt227.1 bt227.2.1 bt227.2.2.1).bind fun t245 => (if t245 = true then (if bt235.2 = 4 then (if bt235.1.toList = ([] : List UInt8) then (some true) else (if bt235.2 = 0 then (if bt237.2.2.2.2 = 0 then ((line_Equal.f bt227.1 bt227.2.1 bt227.2.2.1 bt237.1 bt237.2.1 bt237.2.2.1).bind fun t246 => (some t246)) else (some false)) else (some false))) else (if bt235.2 = 0 then (if bt237.2.2.2.2 = 0 then ((line_Equal.f bt227.1 bt227.2.1 bt227.2.2.1 bt237.1 bt237.2.1 bt237.2.2.1).bind fun t247 => (some t247)) else (some false)) else (some false))) else (some false))))) else (some true))) = some r := by rw [if_neg (show ¬ (false = true) by decide)] at H; exact H
        clear H
        have H := H1
        clear H1
        replace H := Option.bind_eq_some_iff.mp H
        obtain ⟨⟨t227, t228, t231, t232, t233⟩, A100, H⟩ := H
        replace H : (if t233 = 0 then ((line_Print.f kj1 t227 t228 t231).bind fun bt235 => ((line_Parse.f kj1 bt235.1).bind fun bt237 => ((line_Formed.f kj1 t227 t228 t231).bind fun t245 => (if t245 = true then (if bt235.2 = 4 then (if bt235.1.toList = ([] : List UInt8) then (some true) else (if bt235.2 = 0 then (if bt237.2.2.2.2 = 0 then ((line_Equal.f t227 t228 t231 bt237.1 bt237.2.1 bt237.2.2.1).bind fun t246 => (some t246)) else (some false)) else (some false))) else (if bt235.2 = 0 then (if bt237.2.2.2.2 = 0 then ((line_Equal.f t227 t228 t231 bt237.1 bt237.2.1 bt237.2.2.1).bind fun t247 => (some t247)) else (some false)) else (some false))) else (some false))))) else (some true)) = some r := H
        have A10 := Aside0.mk A100
        clear A100
        by_cases c11 : t233 = 0
        · rw [if_pos c11] at H
          have c11b0 : (t233 == 0) = true := beq_iff_eq.mpr c11
          have c11b1 : (t233 != 0) = false := bne_eq_false_iff_eq.mpr c11
          clear c11
          replace H := Option.bind_eq_some_iff.mp H
          obtain ⟨⟨t235, t236⟩, A120, H⟩ := H
          replace H : ((line_Parse.f kj1 t235).bind fun bt237 => ((line_Formed.f kj1 t227 t228 t231).bind fun t245 => (if t245 = true then (if t236 = 4 then (if t235.toList = ([] : List UInt8) then (some true) else (if t236 = 0 then (if bt237.2.2.2.2 = 0 then ((line_Equal.f t227 t228 t231 bt237.1 bt237.2.1 bt237.2.2.1).bind fun t246 => (some t246)) else (some false)) else (some false))) else (if t236 = 0 then (if bt237.2.2.2.2 = 0 then ((line_Equal.f t227 t228 t231 bt237.1 bt237.2.1 bt237.2.2.1).bind fun t247 => (some t247)) else (some false)) else (some false))) else (some false)))) = some r := H
          have A12 := Aside0.mk A120
          clear A120
          replace H := Option.bind_eq_some_iff.mp H
          obtain ⟨⟨t237, t238, t241, t242, t243⟩, A130, H⟩ := H
          replace H : ((line_Formed.f kj1 t227 t228 t231).bind fun t245 => (if t245 = true then (if t236 = 4 then (if t235.toList = ([] : List UInt8) then (some true) else (if t236 = 0 then (if t243 = 0 then ((line_Equal.f t227 t228 t231 t237 t238 t241).bind fun t246 => (some t246)) else (some false)) else (some false))) else (if t236 = 0 then (if t243 = 0 then ((line_Equal.f t227 t228 t231 t237 t238 t241).bind fun t247 => (some t247)) else (some false)) else (some false))) else (some false))) = some r := H
          have A13 := Aside0.mk A130
          clear A130
          replace H := Option.bind_eq_some_iff.mp H
          obtain ⟨t245, A140, H⟩ := H
          replace H : (if t245 = true then (if t236 = 4 then (if t235.toList = ([] : List UInt8) then (some true) else (if t236 = 0 then (if t243 = 0 then ((line_Equal.f t227 t228 t231 t237 t238 t241).bind fun t246 => (some t246)) else (some false)) else (some false))) else (if t236 = 0 then (if t243 = 0 then ((line_Equal.f t227 t228 t231 t237 t238 t241).bind fun t247 => (some t247)) else (some false)) else (some false))) else (some false)) = some r := H
          have A14 := Aside0.mk A140
          clear A140
          by_cases c15 : t245 = true
          · subst c15
            have H1 : (if t236 = 4 then (if t235.toList = ([] : List UInt8) then (some true) else (if t236 = 0 then (if t243 = 0 then ((line_Equal.f t227 t228 t231 t237 t238 t241).bind fun t246 => (some t246)) else (some false)) else (some false))) else (if t236 = 0 then (if t243 = 0 then ((line_Equal.f t227 t228 t231 t237 t238 t241).bind fun t247 => (some t247)) else (some false)) else (some false))) = some r := by rw [if_pos rfl] at H; exact H
            clear H
            have H := H1
            clear H1
            by_cases c16 : t236 = 4
            · rw [if_pos c16] at H
              have c16b0 : (t236 == 4) = true := beq_iff_eq.mpr c16
              have c16b1 : (t236 != 4) = false := bne_eq_false_iff_eq.mpr c16
              clear c16
              by_cases c17 : t235.toList = ([] : List UInt8)
              · rw [if_pos c17] at H
                have c17b0 : (t235.toList == ([] : List UInt8)) = true := beq_iff_eq.mpr c17
                have c17b1 : (t235.toList != ([] : List UInt8)) = false := bne_eq_false_iff_eq.mpr c17
                clear c17
                obtain rfl := Option.some.inj H
                go_wp2_with (first | ((with_reducible refine gate_callee (f := 15) rfl ?_); refine goesL_ (some 21) rfl rfl Tryz.func15 (by kernel_rfl) rfl #[.string a0] rfl (by (try simp only [List.map_toArray, List.map_cons, List.map_nil]); first | done | rfl | (simp only [List.length_drop, List.length_take]; rfl)) ?_; (with_reducible refine (line_Parse.calls kj1 a0 t227 t228 t231 t232 t233 _ (by first | (with_reducible exact hG) | exact GG.below hG (by repeat (first | (with_reducible first | exact HB.out | apply below_alloc | apply pw_below_drewN | apply below_drew1) | exact HB.out))) A10.out).mono ?_); rintro e w18 ⟨v229, rfl, ho0, hb⟩; refine ⟨_, rfl, ?_⟩; have n0_ := Aside0.mk (Kd.S_lower ho0 (below_size (by repeat (first | (with_reducible first | exact HB.out | apply below_alloc | apply pw_below_drewN | apply below_drew1) | exact HB.out)))); have n1_ := Aside0.mk (below_step (by repeat (first | (with_reducible first | exact HB.out | apply below_alloc | apply pw_below_drewN | apply below_drew1) | exact HB.out)) hb); clear HB; have HO230 := n0_; have HB := n1_; clear n0_ n1_; (try clear hb); (try clear hb2); (try clear hk); (try clear hi); (try clear ho0)) | ((with_reducible refine gate_dst (N := 3) rfl ?_); (try (refine gate_guard (by rfl) ?_; dsimp only)); refine box_event ?hg (N := 3) ?hd (cs := #[.string (⟨#[]⟩ : ByteArray), .slice none 0 0, .string (⟨#[]⟩ : ByteArray)]) (t := 32) ?hr ?_; (case hd => rfl); (case hg => rfl); (case hr => first | (go_simp; done) | (go_simp; rfl)); intro gb234 hg w19 hbox hb; have n0_ := Aside0.mk (Kd.S_below (by (with_reducible repeat (first | apply Kd.S_alloc | apply Kd.S_drewN | apply Kd.S_drew)); exact HO230.out) hb); have n1_ := Aside0.mk (below_step (by repeat (first | (with_reducible first | exact HB.out | apply below_alloc | apply pw_below_drewN | apply below_drew1) | exact HB.out)) hb); have n2_ := Aside0.mk (hbox); have n3_ := Aside0.mk ((by rw [hg]; exact (below_size (by repeat (first | (with_reducible first | exact HB.out | apply below_alloc | apply pw_below_drewN | apply below_drew1) | exact HB.out))) : w.heap.size ≤ gb234)); have n4_ := Aside0.mk ((by rw [hg]; exact (below_size (by repeat (first | (with_reducible first | exact HB.out | apply below_alloc | apply pw_below_drewN | apply below_drew1) | exact HB.out))) : w.heap.size ≤ gb234)); clear HO230; clear HB; have HO230 := n0_; have HB := n1_; have BK234 := n2_; have GW234 := n3_; have GE234 := n4_; clear n0_ n1_ n2_ n3_ n4_; clear hb hbox hg; have hcz20_0 : w19.cell? ⟨gb234, 0, none⟩ = some (.string (⟨#[]⟩ : ByteArray)) := (blk_cell BK234.out 0).trans rfl; have hcz20_1 : w19.cell? ⟨gb234, 1, none⟩ = some (.slice none 0 0) := (blk_cell BK234.out 1).trans rfl; have hcz20_2 : w19.cell? ⟨gb234, 2, none⟩ = some (.string (⟨#[]⟩ : ByteArray)) := (blk_cell BK234.out 2).trans rfl; have hfz20_0 := blk_frozen BK234.out 0; have hfz20_1 := blk_frozen BK234.out 1; have hfz20_2 := blk_frozen BK234.out 2; obtain ⟨Ao21, co21, eo21⟩ := Kd.S_slice HO230.out; subst eo21) | ((with_reducible refine gate_callee (f := 8) rfl ?_); refine goesL_ (some 29) rfl rfl Tryz.func8 (by kernel_rfl) rfl #[.agg #[.string t227, .slice Ao21 t228.length co21, .string t231]] rfl (by (try simp only [List.map_toArray, List.map_cons, List.map_nil]); first | done | rfl | (simp only [List.length_drop, List.length_take]; rfl)) ?_; (with_reducible refine (line_Print.calls kj1 t227 _ _ t228 t231 t235 t236 _ (by first | (with_reducible exact hG) | exact GG.below hG (by repeat (first | (with_reducible first | exact HB.out | apply below_alloc | apply pw_below_drewN | apply below_drew1 | refine below_set ?_ GE234.out) | exact HB.out))) ?side1 ?side2 A12.out).mono ?_); (case side1 => refine (Kd.S_reads' (e := 53) (base := w.heap.size) (ok := fun k_ => True) (n := t228.length) (c := co21) ?_).2.2; exact (by (with_reducible repeat (first | apply Kd.S_alloc | apply Kd.S_drewN | apply Kd.S_drew)); exact (Kd.S_mono (Kd.S_far (p := ⟨gb234, 2, none⟩) (Kd.S_far (p := ⟨gb234, 1, none⟩) (Kd.S_far (p := ⟨gb234, 0, none⟩) (Kd.S_types HO230.out BK234.out (by decide)) (fun _ hk => hk.2) (.string t227)) (fun _ hk => hk.2) (.slice Ao21 t228.length co21)) (fun _ hk => hk.2) (.string t231)) (fun _ h_ => h_.1)))); (case side2 => exact (Kd.S_reads' HO230.out).2.1); rintro e w22 ⟨rfl, hb⟩; refine ⟨_, rfl, ?_⟩; have n0_ := Aside0.mk (Kd.S_below (by (with_reducible repeat (first | apply Kd.S_alloc | apply Kd.S_drewN | apply Kd.S_drew)); exact (Kd.S_mono (Kd.S_far (p := ⟨gb234, 2, none⟩) (Kd.S_far (p := ⟨gb234, 1, none⟩) (Kd.S_far (p := ⟨gb234, 0, none⟩) (Kd.S_types HO230.out BK234.out (by decide)) (fun _ hk => hk.2) (.string t227)) (fun _ hk => hk.2) (.slice Ao21 t228.length co21)) (fun _ hk => hk.2) (.string t231)) (fun _ h_ => h_.1))) hb); have n1_ := Aside0.mk (blk_below (g := gb234) (o := .cells #[.string t227, .slice Ao21 t228.length co21, .string t231] 32 (0, 0)) (by (with_reducible repeat (first | refine blk_drewN ?_ _ | refine blk_drew ?_ | refine blk_alloc ?_ _)); refine blk_put (cs := #[.string t227, .slice Ao21 t228.length co21, .string (⟨#[]⟩ : ByteArray)]) ?_ 2 _ rfl; (with_reducible repeat (first | refine blk_drewN ?_ _ | refine blk_drew ?_ | refine blk_alloc ?_ _)); refine blk_put (cs := #[.string t227, .slice none 0 0, .string (⟨#[]⟩ : ByteArray)]) ?_ 1 _ rfl; (with_reducible repeat (first | refine blk_drewN ?_ _ | refine blk_drew ?_ | refine blk_alloc ?_ _)); refine blk_put (cs := #[.string (⟨#[]⟩ : ByteArray), .slice none 0 0, .string (⟨#[]⟩ : ByteArray)]) ?_ 0 _ rfl; (with_reducible repeat (first | refine blk_drewN ?_ _ | refine blk_drew ?_ | refine blk_alloc ?_ _)); exact BK234.out) hb); have n2_ := Aside0.mk (below_step (by repeat (first | (with_reducible first | exact HB.out | apply below_alloc | apply pw_below_drewN | apply below_drew1 | refine below_set ?_ GE234.out) | exact HB.out)) hb); clear HO230; clear BK234; clear HB; have HO230 := n0_; have BK234 := n1_; have HB := n2_; clear n0_ n1_ n2_; (try clear hb); (try clear hb2); (try clear hk); (try clear hi)) | ((with_reducible refine gate_callee (f := 15) rfl ?_); refine goesL_ (some 34) rfl rfl Tryz.func15 (by kernel_rfl) rfl #[.string t235] rfl (by (try simp only [List.map_toArray, List.map_cons, List.map_nil]); first | done | rfl | (simp only [List.length_drop, List.length_take]; rfl)) ?_; (with_reducible refine (line_Parse.calls kj1 t235 t237 t238 t241 t242 t243 _ (by first | (with_reducible exact hG) | exact GG.below hG (by repeat (first | (with_reducible first | exact HB.out | apply below_alloc | apply pw_below_drewN | apply below_drew1 | refine below_set ?_ GE234.out) | exact HB.out))) A13.out).mono ?_); rintro e w23 ⟨v239, rfl, ho0, hb⟩; refine ⟨_, rfl, ?_⟩; have n0_ := Aside0.mk (Kd.S_elder' (by (with_reducible repeat (first | apply Kd.S_alloc | apply Kd.S_drewN | apply Kd.S_drew)); exact HO230.out) (Kd.S_base ho0) hb); have n1_ := Aside0.mk (Kd.S_lower (Kd.S_new' ho0 (Kd.S_lt (by (with_reducible repeat (first | apply Kd.S_alloc | apply Kd.S_drewN | apply Kd.S_drew)); exact HO230.out))) (below_size (by repeat (first | (with_reducible first | exact HB.out | apply below_alloc | apply pw_below_drewN | apply below_drew1 | refine below_set ?_ GE234.out) | exact HB.out)))); have n2_ := Aside0.mk (blk_below (g := gb234) (o := .cells #[.string t227, .slice Ao21 t228.length co21, .string t231] 32 (0, 0)) (by (with_reducible repeat (first | refine blk_drewN ?_ _ | refine blk_drew ?_ | refine blk_alloc ?_ _)); exact BK234.out) hb); have n3_ := Aside0.mk (below_step (by repeat (first | (with_reducible first | exact HB.out | apply below_alloc | apply pw_below_drewN | apply below_drew1 | refine below_set ?_ GE234.out) | exact HB.out)) hb); clear HO230; clear BK234; clear HB; have HO230 := n0_; have HO240 := n1_; have BK234 := n2_; have HB := n3_; clear n0_ n1_ n2_ n3_; (try clear hb); (try clear hb2); (try clear hk); (try clear hi); (try clear ho0)) | ((with_reducible refine gate_dst (N := 8) rfl ?_); (try (refine gate_guard (by rfl) ?_; dsimp only)); refine box_event ?hg (N := 8) ?hd (cs := #[.string (⟨#[]⟩ : ByteArray), .slice none 0 0, .string (⟨#[]⟩ : ByteArray)]) (t := 32) ?hr ?_; (case hd => rfl); (case hg => rfl); (case hr => first | (go_simp; done) | (go_simp; rfl)); intro gb244 hg w24 hbox hb; have n0_ := Aside0.mk (Kd.S_below (by (with_reducible repeat (first | apply Kd.S_alloc | apply Kd.S_drewN | apply Kd.S_drew)); exact HO230.out) hb); have n1_ := Aside0.mk (Kd.S_below (by (with_reducible repeat (first | apply Kd.S_alloc | apply Kd.S_drewN | apply Kd.S_drew)); exact HO240.out) hb); have n2_ := Aside0.mk (blk_below (g := gb234) (o := .cells #[.string t227, .slice Ao21 t228.length co21, .string t231] 32 (0, 0)) (by (with_reducible repeat (first | refine blk_drewN ?_ _ | refine blk_drew ?_ | refine blk_alloc ?_ _)); exact BK234.out) hb); have n3_ := Aside0.mk (below_step (by repeat (first | (with_reducible first | exact HB.out | apply below_alloc | apply pw_below_drewN | apply below_drew1 | refine below_set ?_ GE234.out) | exact HB.out)) hb); have n4_ := Aside0.mk (hbox); have n5_ := Aside0.mk ((by rw [hg]; exact (below_size (by repeat (first | (with_reducible first | exact HB.out | apply below_alloc | apply pw_below_drewN | apply below_drew1 | refine below_set ?_ GE234.out) | exact HB.out))) : w.heap.size ≤ gb244)); have n6_ := Aside0.mk ((by rw [hg]; exact (below_size (by repeat (first | (with_reducible first | exact HB.out | apply below_alloc | apply pw_below_drewN | apply below_drew1 | refine below_set ?_ GE234.out) | exact HB.out))) : w.heap.size ≤ gb244)); have n7_ := Aside0.mk ((by rw [hg]; exact Nat.ne_of_lt (blk_lt (g := gb234) (o := .cells #[.string t227, .slice Ao21 t228.length co21, .string t231] 32 (0, 0)) (by (with_reducible repeat (first | refine blk_drewN ?_ _ | refine blk_drew ?_ | refine blk_alloc ?_ _)); exact BK234.out)) : gb234 ≠ gb244)); have n8_ := Aside0.mk ((by rw [hg]; exact Nat.ne_of_gt (blk_lt (g := gb234) (o := .cells #[.string t227, .slice Ao21 t228.length co21, .string t231] 32 (0, 0)) (by (with_reducible repeat (first | refine blk_drewN ?_ _ | refine blk_drew ?_ | refine blk_alloc ?_ _)); exact BK234.out)) : gb244 ≠ gb234)); clear HO230; clear HO240; clear BK234; clear HB; have HO230 := n0_; have HO240 := n1_; have BK234 := n2_; have HB := n3_; have BK244 := n4_; have GW244 := n5_; have GE244 := n6_; have NB234_244 := n7_; have NB244_234 := n8_; clear n0_ n1_ n2_ n3_ n4_ n5_ n6_ n7_ n8_; clear hb hbox hg; have hnb25 := NB244_234.out; have hnc25 := NB234_244.out; have hcz26_0 : w24.cell? ⟨gb244, 0, none⟩ = some (.string (⟨#[]⟩ : ByteArray)) := (blk_cell BK244.out 0).trans rfl; have hcz26_1 : w24.cell? ⟨gb244, 1, none⟩ = some (.slice none 0 0) := (blk_cell BK244.out 1).trans rfl; have hcz26_2 : w24.cell? ⟨gb244, 2, none⟩ = some (.string (⟨#[]⟩ : ByteArray)) := (blk_cell BK244.out 2).trans rfl; have hfz26_0 := blk_frozen BK244.out 0; have hfz26_1 := blk_frozen BK244.out 1; have hfz26_2 := blk_frozen BK244.out 2; obtain ⟨Ao27, co27, eo27⟩ := Kd.S_slice HO240.out; subst eo27; have hcz28_0 : w24.cell? ⟨gb234, 0, none⟩ = some (.string t227) := (blk_cell BK234.out 0).trans rfl; have hcz28_1 : w24.cell? ⟨gb234, 1, none⟩ = some (.slice Ao21 t228.length co21) := (blk_cell BK234.out 1).trans rfl; have hcz28_2 : w24.cell? ⟨gb234, 2, none⟩ = some (.string t231) := (blk_cell BK234.out 2).trans rfl; have hfz28_0 := blk_frozen BK234.out 0; have hfz28_1 := blk_frozen BK234.out 1; have hfz28_2 := blk_frozen BK234.out 2) | ((with_reducible refine gate_callee (f := 11) rfl ?_); refine goesL_ (some 39) rfl rfl Tryz.func11 (by kernel_rfl) rfl #[.agg #[.string t227, .slice Ao21 t228.length co21, .string t231]] rfl (by (try simp only [List.map_toArray, List.map_cons, List.map_nil]); first | done | rfl | (simp only [List.length_drop, List.length_take]; rfl)) ?_; (with_reducible refine (line_Formed.calls kj1 t227 _ _ t228 t231 true _ (by first | (with_reducible exact hG) | exact GG.below hG (by repeat (first | (with_reducible first | exact HB.out | apply below_alloc | apply pw_below_drewN | apply below_drew1 | refine below_set ?_ GE234.out | refine below_set ?_ GE244.out) | exact HB.out))) ?side1 ?side2 A14.out).mono ?_); (case side1 => refine (Kd.S_reads' (e := 53) (base := w.heap.size) (ok := fun k_ => (True ∧ some k_ ≠ (.slice Ao27 t238.length co27 : Value).ownBlock)) (n := t228.length) (c := co21) ?_).2.2; exact (by (with_reducible repeat (first | apply Kd.S_alloc | apply Kd.S_drewN | apply Kd.S_drew)); exact (Kd.S_mono (Kd.S_far (p := ⟨gb244, 2, none⟩) (Kd.S_far (p := ⟨gb244, 1, none⟩) (Kd.S_far (p := ⟨gb244, 0, none⟩) (Kd.S_types HO230.out BK244.out (by decide)) (fun _ hk => hk.2) (.string t237)) (fun _ hk => hk.2) (.slice Ao27 t238.length co27)) (fun _ hk => hk.2) (.string t241)) (fun _ h_ => h_.1)))); (case side2 => exact (Kd.S_reads' HO230.out).2.1); rintro e w29 ⟨rfl, hb⟩; refine ⟨_, rfl, ?_⟩; have n0_ := Aside0.mk (Kd.S_below (by (with_reducible repeat (first | apply Kd.S_alloc | apply Kd.S_drewN | apply Kd.S_drew)); exact (Kd.S_mono (Kd.S_far (p := ⟨gb244, 2, none⟩) (Kd.S_far (p := ⟨gb244, 1, none⟩) (Kd.S_far (p := ⟨gb244, 0, none⟩) (Kd.S_types HO230.out BK244.out (by decide)) (fun _ hk => hk.2) (.string t237)) (fun _ hk => hk.2) (.slice Ao27 t238.length co27)) (fun _ hk => hk.2) (.string t241)) (fun _ h_ => h_.1))) hb); have n1_ := Aside0.mk (Kd.S_below (by (with_reducible repeat (first | apply Kd.S_alloc | apply Kd.S_drewN | apply Kd.S_drew)); exact (Kd.S_mono (Kd.S_far (p := ⟨gb244, 2, none⟩) (Kd.S_far (p := ⟨gb244, 1, none⟩) (Kd.S_far (p := ⟨gb244, 0, none⟩) (Kd.S_types HO240.out BK244.out (by decide)) (fun _ hk => hk.2) (.string t237)) (fun _ hk => hk.2) (.slice Ao27 t238.length co27)) (fun _ hk => hk.2) (.string t241)) (fun _ h_ => h_.1))) hb); have n2_ := Aside0.mk (blk_below (g := gb234) (o := .cells #[.string t227, .slice Ao21 t228.length co21, .string t231] 32 (0, 0)) (by (with_reducible repeat (first | refine blk_drewN ?_ _ | refine blk_drew ?_ | refine blk_alloc ?_ _)); refine blk_far ?_ NB234_244.out _; (with_reducible repeat (first | refine blk_drewN ?_ _ | refine blk_drew ?_ | refine blk_alloc ?_ _)); refine blk_far ?_ NB234_244.out _; (with_reducible repeat (first | refine blk_drewN ?_ _ | refine blk_drew ?_ | refine blk_alloc ?_ _)); refine blk_far ?_ NB234_244.out _; (with_reducible repeat (first | refine blk_drewN ?_ _ | refine blk_drew ?_ | refine blk_alloc ?_ _)); exact BK234.out) hb); have n3_ := Aside0.mk (blk_below (g := gb244) (o := .cells #[.string t237, .slice Ao27 t238.length co27, .string t241] 32 (0, 0)) (by (with_reducible repeat (first | refine blk_drewN ?_ _ | refine blk_drew ?_ | refine blk_alloc ?_ _)); refine blk_put (cs := #[.string t237, .slice Ao27 t238.length co27, .string (⟨#[]⟩ : ByteArray)]) ?_ 2 _ rfl; (with_reducible repeat (first | refine blk_drewN ?_ _ | refine blk_drew ?_ | refine blk_alloc ?_ _)); refine blk_put (cs := #[.string t237, .slice none 0 0, .string (⟨#[]⟩ : ByteArray)]) ?_ 1 _ rfl; (with_reducible repeat (first | refine blk_drewN ?_ _ | refine blk_drew ?_ | refine blk_alloc ?_ _)); refine blk_put (cs := #[.string (⟨#[]⟩ : ByteArray), .slice none 0 0, .string (⟨#[]⟩ : ByteArray)]) ?_ 0 _ rfl; (with_reducible repeat (first | refine blk_drewN ?_ _ | refine blk_drew ?_ | refine blk_alloc ?_ _)); exact BK244.out) hb); have n4_ := Aside0.mk (below_step (by repeat (first | (with_reducible first | exact HB.out | apply below_alloc | apply pw_below_drewN | apply below_drew1 | refine below_set ?_ GE234.out | refine below_set ?_ GE244.out) | exact HB.out)) hb); clear HO230; clear HO240; clear BK234; clear BK244; clear HB; have HO230 := n0_; have HO240 := n1_; have BK234 := n2_; have BK244 := n3_; have HB := n4_; clear n0_ n1_ n2_ n3_ n4_; (try clear hb); (try clear hb2); (try clear hk); (try clear hi)))
                go_ret
                exact ⟨by first | rfl | (simp [errW_none, errW_some] <;> rfl) | (simp [*, errW_none, errW_some] <;> rfl), by repeat (first | (with_reducible first | exact HB.out | apply below_alloc | apply pw_below_drewN | apply below_drew1 | refine below_set ?_ GE234.out | refine below_set ?_ GE244.out) | exact HB.out)⟩
              · rw [if_neg c17] at H
                have c17b0 : (t235.toList == ([] : List UInt8)) = false := beq_eq_false_iff_ne.mpr c17
                have c17b1 : (t235.toList != ([] : List UInt8)) = true := bne_iff_ne.mpr c17
                by_cases c30 : t236 = 0
                · rw [if_pos c30] at H
                  have c30b0 : (t236 == 0) = true := beq_iff_eq.mpr c30
                  have c30b1 : (t236 != 0) = false := bne_eq_false_iff_eq.mpr c30
                  clear c30
                  by_cases c31 : t243 = 0
                  · rw [if_pos c31] at H
                    have c31b0 : (t243 == 0) = true := beq_iff_eq.mpr c31
                    have c31b1 : (t243 != 0) = false := bne_eq_false_iff_eq.mpr c31
                    clear c31
                    replace H := Option.bind_eq_some_iff.mp H
                    obtain ⟨t246, A320, H⟩ := H
                    replace H : (some t246) = some r := H
                    have A32 := Aside0.mk A320
                    clear A320
                    obtain rfl := Option.some.inj H
                    go_wp2_with (first | ((with_reducible refine gate_callee (f := 15) rfl ?_); refine goesL_ (some 21) rfl rfl Tryz.func15 (by kernel_rfl) rfl #[.string a0] rfl (by (try simp only [List.map_toArray, List.map_cons, List.map_nil]); first | done | rfl | (simp only [List.length_drop, List.length_take]; rfl)) ?_; (with_reducible refine (line_Parse.calls kj1 a0 t227 t228 t231 t232 t233 _ (by first | (with_reducible exact hG) | exact GG.below hG (by repeat (first | (with_reducible first | exact HB.out | apply below_alloc | apply pw_below_drewN | apply below_drew1) | exact HB.out))) A10.out).mono ?_); rintro e w33 ⟨v229, rfl, ho0, hb⟩; refine ⟨_, rfl, ?_⟩; have n0_ := Aside0.mk (Kd.S_lower ho0 (below_size (by repeat (first | (with_reducible first | exact HB.out | apply below_alloc | apply pw_below_drewN | apply below_drew1) | exact HB.out)))); have n1_ := Aside0.mk (below_step (by repeat (first | (with_reducible first | exact HB.out | apply below_alloc | apply pw_below_drewN | apply below_drew1) | exact HB.out)) hb); clear HB; have HO230 := n0_; have HB := n1_; clear n0_ n1_; (try clear hb); (try clear hb2); (try clear hk); (try clear hi); (try clear ho0)) | ((with_reducible refine gate_dst (N := 3) rfl ?_); (try (refine gate_guard (by rfl) ?_; dsimp only)); refine box_event ?hg (N := 3) ?hd (cs := #[.string (⟨#[]⟩ : ByteArray), .slice none 0 0, .string (⟨#[]⟩ : ByteArray)]) (t := 32) ?hr ?_; (case hd => rfl); (case hg => rfl); (case hr => first | (go_simp; done) | (go_simp; rfl)); intro gb234 hg w34 hbox hb; have n0_ := Aside0.mk (Kd.S_below (by (with_reducible repeat (first | apply Kd.S_alloc | apply Kd.S_drewN | apply Kd.S_drew)); exact HO230.out) hb); have n1_ := Aside0.mk (below_step (by repeat (first | (with_reducible first | exact HB.out | apply below_alloc | apply pw_below_drewN | apply below_drew1) | exact HB.out)) hb); have n2_ := Aside0.mk (hbox); have n3_ := Aside0.mk ((by rw [hg]; exact (below_size (by repeat (first | (with_reducible first | exact HB.out | apply below_alloc | apply pw_below_drewN | apply below_drew1) | exact HB.out))) : w.heap.size ≤ gb234)); have n4_ := Aside0.mk ((by rw [hg]; exact (below_size (by repeat (first | (with_reducible first | exact HB.out | apply below_alloc | apply pw_below_drewN | apply below_drew1) | exact HB.out))) : w.heap.size ≤ gb234)); clear HO230; clear HB; have HO230 := n0_; have HB := n1_; have BK234 := n2_; have GW234 := n3_; have GE234 := n4_; clear n0_ n1_ n2_ n3_ n4_; clear hb hbox hg; have hcz35_0 : w34.cell? ⟨gb234, 0, none⟩ = some (.string (⟨#[]⟩ : ByteArray)) := (blk_cell BK234.out 0).trans rfl; have hcz35_1 : w34.cell? ⟨gb234, 1, none⟩ = some (.slice none 0 0) := (blk_cell BK234.out 1).trans rfl; have hcz35_2 : w34.cell? ⟨gb234, 2, none⟩ = some (.string (⟨#[]⟩ : ByteArray)) := (blk_cell BK234.out 2).trans rfl; have hfz35_0 := blk_frozen BK234.out 0; have hfz35_1 := blk_frozen BK234.out 1; have hfz35_2 := blk_frozen BK234.out 2; obtain ⟨Ao36, co36, eo36⟩ := Kd.S_slice HO230.out; subst eo36) | ((with_reducible refine gate_callee (f := 8) rfl ?_); refine goesL_ (some 29) rfl rfl Tryz.func8 (by kernel_rfl) rfl #[.agg #[.string t227, .slice Ao36 t228.length co36, .string t231]] rfl (by (try simp only [List.map_toArray, List.map_cons, List.map_nil]); first | done | rfl | (simp only [List.length_drop, List.length_take]; rfl)) ?_; (with_reducible refine (line_Print.calls kj1 t227 _ _ t228 t231 t235 t236 _ (by first | (with_reducible exact hG) | exact GG.below hG (by repeat (first | (with_reducible first | exact HB.out | apply below_alloc | apply pw_below_drewN | apply below_drew1 | refine below_set ?_ GE234.out) | exact HB.out))) ?side1 ?side2 A12.out).mono ?_); (case side1 => refine (Kd.S_reads' (e := 53) (base := w.heap.size) (ok := fun k_ => True) (n := t228.length) (c := co36) ?_).2.2; exact (by (with_reducible repeat (first | apply Kd.S_alloc | apply Kd.S_drewN | apply Kd.S_drew)); exact (Kd.S_mono (Kd.S_far (p := ⟨gb234, 2, none⟩) (Kd.S_far (p := ⟨gb234, 1, none⟩) (Kd.S_far (p := ⟨gb234, 0, none⟩) (Kd.S_types HO230.out BK234.out (by decide)) (fun _ hk => hk.2) (.string t227)) (fun _ hk => hk.2) (.slice Ao36 t228.length co36)) (fun _ hk => hk.2) (.string t231)) (fun _ h_ => h_.1)))); (case side2 => exact (Kd.S_reads' HO230.out).2.1); rintro e w37 ⟨rfl, hb⟩; refine ⟨_, rfl, ?_⟩; have n0_ := Aside0.mk (Kd.S_below (by (with_reducible repeat (first | apply Kd.S_alloc | apply Kd.S_drewN | apply Kd.S_drew)); exact (Kd.S_mono (Kd.S_far (p := ⟨gb234, 2, none⟩) (Kd.S_far (p := ⟨gb234, 1, none⟩) (Kd.S_far (p := ⟨gb234, 0, none⟩) (Kd.S_types HO230.out BK234.out (by decide)) (fun _ hk => hk.2) (.string t227)) (fun _ hk => hk.2) (.slice Ao36 t228.length co36)) (fun _ hk => hk.2) (.string t231)) (fun _ h_ => h_.1))) hb); have n1_ := Aside0.mk (blk_below (g := gb234) (o := .cells #[.string t227, .slice Ao36 t228.length co36, .string t231] 32 (0, 0)) (by (with_reducible repeat (first | refine blk_drewN ?_ _ | refine blk_drew ?_ | refine blk_alloc ?_ _)); refine blk_put (cs := #[.string t227, .slice Ao36 t228.length co36, .string (⟨#[]⟩ : ByteArray)]) ?_ 2 _ rfl; (with_reducible repeat (first | refine blk_drewN ?_ _ | refine blk_drew ?_ | refine blk_alloc ?_ _)); refine blk_put (cs := #[.string t227, .slice none 0 0, .string (⟨#[]⟩ : ByteArray)]) ?_ 1 _ rfl; (with_reducible repeat (first | refine blk_drewN ?_ _ | refine blk_drew ?_ | refine blk_alloc ?_ _)); refine blk_put (cs := #[.string (⟨#[]⟩ : ByteArray), .slice none 0 0, .string (⟨#[]⟩ : ByteArray)]) ?_ 0 _ rfl; (with_reducible repeat (first | refine blk_drewN ?_ _ | refine blk_drew ?_ | refine blk_alloc ?_ _)); exact BK234.out) hb); have n2_ := Aside0.mk (below_step (by repeat (first | (with_reducible first | exact HB.out | apply below_alloc | apply pw_below_drewN | apply below_drew1 | refine below_set ?_ GE234.out) | exact HB.out)) hb); clear HO230; clear BK234; clear HB; have HO230 := n0_; have BK234 := n1_; have HB := n2_; clear n0_ n1_ n2_; (try clear hb); (try clear hb2); (try clear hk); (try clear hi)) | ((with_reducible refine gate_callee (f := 15) rfl ?_); refine goesL_ (some 34) rfl rfl Tryz.func15 (by kernel_rfl) rfl #[.string t235] rfl (by (try simp only [List.map_toArray, List.map_cons, List.map_nil]); first | done | rfl | (simp only [List.length_drop, List.length_take]; rfl)) ?_; (with_reducible refine (line_Parse.calls kj1 t235 t237 t238 t241 t242 t243 _ (by first | (with_reducible exact hG) | exact GG.below hG (by repeat (first | (with_reducible first | exact HB.out | apply below_alloc | apply pw_below_drewN | apply below_drew1 | refine below_set ?_ GE234.out) | exact HB.out))) A13.out).mono ?_); rintro e w38 ⟨v239, rfl, ho0, hb⟩; refine ⟨_, rfl, ?_⟩; have n0_ := Aside0.mk (Kd.S_elder' (by (with_reducible repeat (first | apply Kd.S_alloc | apply Kd.S_drewN | apply Kd.S_drew)); exact HO230.out) (Kd.S_base ho0) hb); have n1_ := Aside0.mk (Kd.S_lower (Kd.S_new' ho0 (Kd.S_lt (by (with_reducible repeat (first | apply Kd.S_alloc | apply Kd.S_drewN | apply Kd.S_drew)); exact HO230.out))) (below_size (by repeat (first | (with_reducible first | exact HB.out | apply below_alloc | apply pw_below_drewN | apply below_drew1 | refine below_set ?_ GE234.out) | exact HB.out)))); have n2_ := Aside0.mk (blk_below (g := gb234) (o := .cells #[.string t227, .slice Ao36 t228.length co36, .string t231] 32 (0, 0)) (by (with_reducible repeat (first | refine blk_drewN ?_ _ | refine blk_drew ?_ | refine blk_alloc ?_ _)); exact BK234.out) hb); have n3_ := Aside0.mk (below_step (by repeat (first | (with_reducible first | exact HB.out | apply below_alloc | apply pw_below_drewN | apply below_drew1 | refine below_set ?_ GE234.out) | exact HB.out)) hb); clear HO230; clear BK234; clear HB; have HO230 := n0_; have HO240 := n1_; have BK234 := n2_; have HB := n3_; clear n0_ n1_ n2_ n3_; (try clear hb); (try clear hb2); (try clear hk); (try clear hi); (try clear ho0)) | ((with_reducible refine gate_dst (N := 8) rfl ?_); (try (refine gate_guard (by rfl) ?_; dsimp only)); refine box_event ?hg (N := 8) ?hd (cs := #[.string (⟨#[]⟩ : ByteArray), .slice none 0 0, .string (⟨#[]⟩ : ByteArray)]) (t := 32) ?hr ?_; (case hd => rfl); (case hg => rfl); (case hr => first | (go_simp; done) | (go_simp; rfl)); intro gb244 hg w39 hbox hb; have n0_ := Aside0.mk (Kd.S_below (by (with_reducible repeat (first | apply Kd.S_alloc | apply Kd.S_drewN | apply Kd.S_drew)); exact HO230.out) hb); have n1_ := Aside0.mk (Kd.S_below (by (with_reducible repeat (first | apply Kd.S_alloc | apply Kd.S_drewN | apply Kd.S_drew)); exact HO240.out) hb); have n2_ := Aside0.mk (blk_below (g := gb234) (o := .cells #[.string t227, .slice Ao36 t228.length co36, .string t231] 32 (0, 0)) (by (with_reducible repeat (first | refine blk_drewN ?_ _ | refine blk_drew ?_ | refine blk_alloc ?_ _)); exact BK234.out) hb); have n3_ := Aside0.mk (below_step (by repeat (first | (with_reducible first | exact HB.out | apply below_alloc | apply pw_below_drewN | apply below_drew1 | refine below_set ?_ GE234.out) | exact HB.out)) hb); have n4_ := Aside0.mk (hbox); have n5_ := Aside0.mk ((by rw [hg]; exact (below_size (by repeat (first | (with_reducible first | exact HB.out | apply below_alloc | apply pw_below_drewN | apply below_drew1 | refine below_set ?_ GE234.out) | exact HB.out))) : w.heap.size ≤ gb244)); have n6_ := Aside0.mk ((by rw [hg]; exact (below_size (by repeat (first | (with_reducible first | exact HB.out | apply below_alloc | apply pw_below_drewN | apply below_drew1 | refine below_set ?_ GE234.out) | exact HB.out))) : w.heap.size ≤ gb244)); have n7_ := Aside0.mk ((by rw [hg]; exact Nat.ne_of_lt (blk_lt (g := gb234) (o := .cells #[.string t227, .slice Ao36 t228.length co36, .string t231] 32 (0, 0)) (by (with_reducible repeat (first | refine blk_drewN ?_ _ | refine blk_drew ?_ | refine blk_alloc ?_ _)); exact BK234.out)) : gb234 ≠ gb244)); have n8_ := Aside0.mk ((by rw [hg]; exact Nat.ne_of_gt (blk_lt (g := gb234) (o := .cells #[.string t227, .slice Ao36 t228.length co36, .string t231] 32 (0, 0)) (by (with_reducible repeat (first | refine blk_drewN ?_ _ | refine blk_drew ?_ | refine blk_alloc ?_ _)); exact BK234.out)) : gb244 ≠ gb234)); clear HO230; clear HO240; clear BK234; clear HB; have HO230 := n0_; have HO240 := n1_; have BK234 := n2_; have HB := n3_; have BK244 := n4_; have GW244 := n5_; have GE244 := n6_; have NB234_244 := n7_; have NB244_234 := n8_; clear n0_ n1_ n2_ n3_ n4_ n5_ n6_ n7_ n8_; clear hb hbox hg; have hnb40 := NB244_234.out; have hnc40 := NB234_244.out; have hcz41_0 : w39.cell? ⟨gb244, 0, none⟩ = some (.string (⟨#[]⟩ : ByteArray)) := (blk_cell BK244.out 0).trans rfl; have hcz41_1 : w39.cell? ⟨gb244, 1, none⟩ = some (.slice none 0 0) := (blk_cell BK244.out 1).trans rfl; have hcz41_2 : w39.cell? ⟨gb244, 2, none⟩ = some (.string (⟨#[]⟩ : ByteArray)) := (blk_cell BK244.out 2).trans rfl; have hfz41_0 := blk_frozen BK244.out 0; have hfz41_1 := blk_frozen BK244.out 1; have hfz41_2 := blk_frozen BK244.out 2; obtain ⟨Ao42, co42, eo42⟩ := Kd.S_slice HO240.out; subst eo42; have hcz43_0 : w39.cell? ⟨gb234, 0, none⟩ = some (.string t227) := (blk_cell BK234.out 0).trans rfl; have hcz43_1 : w39.cell? ⟨gb234, 1, none⟩ = some (.slice Ao36 t228.length co36) := (blk_cell BK234.out 1).trans rfl; have hcz43_2 : w39.cell? ⟨gb234, 2, none⟩ = some (.string t231) := (blk_cell BK234.out 2).trans rfl; have hfz43_0 := blk_frozen BK234.out 0; have hfz43_1 := blk_frozen BK234.out 1; have hfz43_2 := blk_frozen BK234.out 2) | ((with_reducible refine gate_callee (f := 11) rfl ?_); refine goesL_ (some 39) rfl rfl Tryz.func11 (by kernel_rfl) rfl #[.agg #[.string t227, .slice Ao36 t228.length co36, .string t231]] rfl (by (try simp only [List.map_toArray, List.map_cons, List.map_nil]); first | done | rfl | (simp only [List.length_drop, List.length_take]; rfl)) ?_; (with_reducible refine (line_Formed.calls kj1 t227 _ _ t228 t231 true _ (by first | (with_reducible exact hG) | exact GG.below hG (by repeat (first | (with_reducible first | exact HB.out | apply below_alloc | apply pw_below_drewN | apply below_drew1 | refine below_set ?_ GE234.out | refine below_set ?_ GE244.out) | exact HB.out))) ?side1 ?side2 A14.out).mono ?_); (case side1 => refine (Kd.S_reads' (e := 53) (base := w.heap.size) (ok := fun k_ => (True ∧ some k_ ≠ (.slice Ao42 t238.length co42 : Value).ownBlock)) (n := t228.length) (c := co36) ?_).2.2; exact (by (with_reducible repeat (first | apply Kd.S_alloc | apply Kd.S_drewN | apply Kd.S_drew)); exact (Kd.S_mono (Kd.S_far (p := ⟨gb244, 2, none⟩) (Kd.S_far (p := ⟨gb244, 1, none⟩) (Kd.S_far (p := ⟨gb244, 0, none⟩) (Kd.S_types HO230.out BK244.out (by decide)) (fun _ hk => hk.2) (.string t237)) (fun _ hk => hk.2) (.slice Ao42 t238.length co42)) (fun _ hk => hk.2) (.string t241)) (fun _ h_ => h_.1)))); (case side2 => exact (Kd.S_reads' HO230.out).2.1); rintro e w44 ⟨rfl, hb⟩; refine ⟨_, rfl, ?_⟩; have n0_ := Aside0.mk (Kd.S_below (by (with_reducible repeat (first | apply Kd.S_alloc | apply Kd.S_drewN | apply Kd.S_drew)); exact (Kd.S_mono (Kd.S_far (p := ⟨gb244, 2, none⟩) (Kd.S_far (p := ⟨gb244, 1, none⟩) (Kd.S_far (p := ⟨gb244, 0, none⟩) (Kd.S_types HO230.out BK244.out (by decide)) (fun _ hk => hk.2) (.string t237)) (fun _ hk => hk.2) (.slice Ao42 t238.length co42)) (fun _ hk => hk.2) (.string t241)) (fun _ h_ => h_.1))) hb); have n1_ := Aside0.mk (Kd.S_below (by (with_reducible repeat (first | apply Kd.S_alloc | apply Kd.S_drewN | apply Kd.S_drew)); exact (Kd.S_mono (Kd.S_far (p := ⟨gb244, 2, none⟩) (Kd.S_far (p := ⟨gb244, 1, none⟩) (Kd.S_far (p := ⟨gb244, 0, none⟩) (Kd.S_types HO240.out BK244.out (by decide)) (fun _ hk => hk.2) (.string t237)) (fun _ hk => hk.2) (.slice Ao42 t238.length co42)) (fun _ hk => hk.2) (.string t241)) (fun _ h_ => h_.1))) hb); have n2_ := Aside0.mk (blk_below (g := gb234) (o := .cells #[.string t227, .slice Ao36 t228.length co36, .string t231] 32 (0, 0)) (by (with_reducible repeat (first | refine blk_drewN ?_ _ | refine blk_drew ?_ | refine blk_alloc ?_ _)); refine blk_far ?_ NB234_244.out _; (with_reducible repeat (first | refine blk_drewN ?_ _ | refine blk_drew ?_ | refine blk_alloc ?_ _)); refine blk_far ?_ NB234_244.out _; (with_reducible repeat (first | refine blk_drewN ?_ _ | refine blk_drew ?_ | refine blk_alloc ?_ _)); refine blk_far ?_ NB234_244.out _; (with_reducible repeat (first | refine blk_drewN ?_ _ | refine blk_drew ?_ | refine blk_alloc ?_ _)); exact BK234.out) hb); have n3_ := Aside0.mk (blk_below (g := gb244) (o := .cells #[.string t237, .slice Ao42 t238.length co42, .string t241] 32 (0, 0)) (by (with_reducible repeat (first | refine blk_drewN ?_ _ | refine blk_drew ?_ | refine blk_alloc ?_ _)); refine blk_put (cs := #[.string t237, .slice Ao42 t238.length co42, .string (⟨#[]⟩ : ByteArray)]) ?_ 2 _ rfl; (with_reducible repeat (first | refine blk_drewN ?_ _ | refine blk_drew ?_ | refine blk_alloc ?_ _)); refine blk_put (cs := #[.string t237, .slice none 0 0, .string (⟨#[]⟩ : ByteArray)]) ?_ 1 _ rfl; (with_reducible repeat (first | refine blk_drewN ?_ _ | refine blk_drew ?_ | refine blk_alloc ?_ _)); refine blk_put (cs := #[.string (⟨#[]⟩ : ByteArray), .slice none 0 0, .string (⟨#[]⟩ : ByteArray)]) ?_ 0 _ rfl; (with_reducible repeat (first | refine blk_drewN ?_ _ | refine blk_drew ?_ | refine blk_alloc ?_ _)); exact BK244.out) hb); have n4_ := Aside0.mk (below_step (by repeat (first | (with_reducible first | exact HB.out | apply below_alloc | apply pw_below_drewN | apply below_drew1 | refine below_set ?_ GE234.out | refine below_set ?_ GE244.out) | exact HB.out)) hb); clear HO230; clear HO240; clear BK234; clear BK244; clear HB; have HO230 := n0_; have HO240 := n1_; have BK234 := n2_; have BK244 := n3_; have HB := n4_; clear n0_ n1_ n2_ n3_ n4_; (try clear hb); (try clear hb2); (try clear hk); (try clear hi); have hcz45_0 : w44.cell? ⟨gb234, 0, none⟩ = some (.string t227) := (blk_cell BK234.out 0).trans rfl; have hcz45_1 : w44.cell? ⟨gb234, 1, none⟩ = some (.slice Ao36 t228.length co36) := (blk_cell BK234.out 1).trans rfl; have hcz45_2 : w44.cell? ⟨gb234, 2, none⟩ = some (.string t231) := (blk_cell BK234.out 2).trans rfl; have hfz45_0 := blk_frozen BK234.out 0; have hfz45_1 := blk_frozen BK234.out 1; have hfz45_2 := blk_frozen BK234.out 2; have hcz46_0 : w44.cell? ⟨gb244, 0, none⟩ = some (.string t237) := (blk_cell BK244.out 0).trans rfl; have hcz46_1 : w44.cell? ⟨gb244, 1, none⟩ = some (.slice Ao42 t238.length co42) := (blk_cell BK244.out 1).trans rfl; have hcz46_2 : w44.cell? ⟨gb244, 2, none⟩ = some (.string t241) := (blk_cell BK244.out 2).trans rfl; have hfz46_0 := blk_frozen BK244.out 0; have hfz46_1 := blk_frozen BK244.out 1; have hfz46_2 := blk_frozen BK244.out 2) | (go_at_call 18; (with_reducible refine (line_Equal.calls t227 _ _ t228 t231 t237 _ _ t238 t241 t246 _ (by first | (with_reducible exact hG) | exact GG.below hG (by repeat (first | (with_reducible first | exact HB.out | apply below_alloc | apply pw_below_drewN | apply below_drew1 | refine below_set ?_ GE234.out | refine below_set ?_ GE244.out) | exact HB.out))) ?side1 ?side2 ?side3 ?side4 A32.out).mono ?_); (case side1 => repeat (first | exact (Kd.S_reads' HO230.out).2.2 | (with_reducible refine Kd.C_alloc ?_ _) | (with_reducible refine Kd.C_drewN ?_ _) | (with_reducible refine Kd.C_drew ?_))); (case side2 => exact (Kd.S_reads' HO230.out).2.1); (case side3 => repeat (first | exact (Kd.S_reads' HO240.out).2.2 | (with_reducible refine Kd.C_alloc ?_ _) | (with_reducible refine Kd.C_drewN ?_ _) | (with_reducible refine Kd.C_drew ?_))); (case side4 => exact (Kd.S_reads' HO240.out).2.1); rintro e w47 ⟨rfl, hb⟩; have n0_ := Aside0.mk (Kd.S_below (by (with_reducible repeat (first | apply Kd.S_alloc | apply Kd.S_drewN | apply Kd.S_drew)); exact HO230.out) hb); have n1_ := Aside0.mk (Kd.S_below (by (with_reducible repeat (first | apply Kd.S_alloc | apply Kd.S_drewN | apply Kd.S_drew)); exact HO240.out) hb); have n2_ := Aside0.mk (blk_below (g := gb234) (o := .cells #[.string t227, .slice Ao36 t228.length co36, .string t231] 32 (0, 0)) (by (with_reducible repeat (first | refine blk_drewN ?_ _ | refine blk_drew ?_ | refine blk_alloc ?_ _)); exact BK234.out) hb); have n3_ := Aside0.mk (blk_below (g := gb244) (o := .cells #[.string t237, .slice Ao42 t238.length co42, .string t241] 32 (0, 0)) (by (with_reducible repeat (first | refine blk_drewN ?_ _ | refine blk_drew ?_ | refine blk_alloc ?_ _)); exact BK244.out) hb); have n4_ := Aside0.mk (below_step (by repeat (first | (with_reducible first | exact HB.out | apply below_alloc | apply pw_below_drewN | apply below_drew1 | refine below_set ?_ GE234.out | refine below_set ?_ GE244.out) | exact HB.out)) hb); clear HO230; clear HO240; clear BK234; clear BK244; clear HB; have HO230 := n0_; have HO240 := n1_; have BK234 := n2_; have BK244 := n3_; have HB := n4_; clear n0_ n1_ n2_ n3_ n4_; (try clear hb); (try clear hb2); (try clear hk); (try clear hi)))
                    go_ret
                    exact ⟨by first | rfl | (simp [errW_none, errW_some] <;> rfl) | (simp [*, errW_none, errW_some] <;> rfl), by repeat (first | (with_reducible first | exact HB.out | apply below_alloc | apply pw_below_drewN | apply below_drew1 | refine below_set ?_ GE234.out | refine below_set ?_ GE244.out) | exact HB.out)⟩
                  · rw [if_neg c31] at H
                    have c31b0 : (t243 == 0) = false := beq_eq_false_iff_ne.mpr c31
                    have c31b1 : (t243 != 0) = true := bne_iff_ne.mpr c31
                    obtain rfl := Option.some.inj H
                    go_wp2_with (first | ((with_reducible refine gate_callee (f := 15) rfl ?_); refine goesL_ (some 21) rfl rfl Tryz.func15 (by kernel_rfl) rfl #[.string a0] rfl (by (try simp only [List.map_toArray, List.map_cons, List.map_nil]); first | done | rfl | (simp only [List.length_drop, List.length_take]; rfl)) ?_; (with_reducible refine (line_Parse.calls kj1 a0 t227 t228 t231 t232 t233 _ (by first | (with_reducible exact hG) | exact GG.below hG (by repeat (first | (with_reducible first | exact HB.out | apply below_alloc | apply pw_below_drewN | apply below_drew1) | exact HB.out))) A10.out).mono ?_); rintro e w48 ⟨v229, rfl, ho0, hb⟩; refine ⟨_, rfl, ?_⟩; have n0_ := Aside0.mk (Kd.S_lower ho0 (below_size (by repeat (first | (with_reducible first | exact HB.out | apply below_alloc | apply pw_below_drewN | apply below_drew1) | exact HB.out)))); have n1_ := Aside0.mk (below_step (by repeat (first | (with_reducible first | exact HB.out | apply below_alloc | apply pw_below_drewN | apply below_drew1) | exact HB.out)) hb); clear HB; have HO230 := n0_; have HB := n1_; clear n0_ n1_; (try clear hb); (try clear hb2); (try clear hk); (try clear hi); (try clear ho0)) | ((with_reducible refine gate_dst (N := 3) rfl ?_); (try (refine gate_guard (by rfl) ?_; dsimp only)); refine box_event ?hg (N := 3) ?hd (cs := #[.string (⟨#[]⟩ : ByteArray), .slice none 0 0, .string (⟨#[]⟩ : ByteArray)]) (t := 32) ?hr ?_; (case hd => rfl); (case hg => rfl); (case hr => first | (go_simp; done) | (go_simp; rfl)); intro gb234 hg w49 hbox hb; have n0_ := Aside0.mk (Kd.S_below (by (with_reducible repeat (first | apply Kd.S_alloc | apply Kd.S_drewN | apply Kd.S_drew)); exact HO230.out) hb); have n1_ := Aside0.mk (below_step (by repeat (first | (with_reducible first | exact HB.out | apply below_alloc | apply pw_below_drewN | apply below_drew1) | exact HB.out)) hb); have n2_ := Aside0.mk (hbox); have n3_ := Aside0.mk ((by rw [hg]; exact (below_size (by repeat (first | (with_reducible first | exact HB.out | apply below_alloc | apply pw_below_drewN | apply below_drew1) | exact HB.out))) : w.heap.size ≤ gb234)); have n4_ := Aside0.mk ((by rw [hg]; exact (below_size (by repeat (first | (with_reducible first | exact HB.out | apply below_alloc | apply pw_below_drewN | apply below_drew1) | exact HB.out))) : w.heap.size ≤ gb234)); clear HO230; clear HB; have HO230 := n0_; have HB := n1_; have BK234 := n2_; have GW234 := n3_; have GE234 := n4_; clear n0_ n1_ n2_ n3_ n4_; clear hb hbox hg; have hcz50_0 : w49.cell? ⟨gb234, 0, none⟩ = some (.string (⟨#[]⟩ : ByteArray)) := (blk_cell BK234.out 0).trans rfl; have hcz50_1 : w49.cell? ⟨gb234, 1, none⟩ = some (.slice none 0 0) := (blk_cell BK234.out 1).trans rfl; have hcz50_2 : w49.cell? ⟨gb234, 2, none⟩ = some (.string (⟨#[]⟩ : ByteArray)) := (blk_cell BK234.out 2).trans rfl; have hfz50_0 := blk_frozen BK234.out 0; have hfz50_1 := blk_frozen BK234.out 1; have hfz50_2 := blk_frozen BK234.out 2; obtain ⟨Ao51, co51, eo51⟩ := Kd.S_slice HO230.out; subst eo51) | ((with_reducible refine gate_callee (f := 8) rfl ?_); refine goesL_ (some 29) rfl rfl Tryz.func8 (by kernel_rfl) rfl #[.agg #[.string t227, .slice Ao51 t228.length co51, .string t231]] rfl (by (try simp only [List.map_toArray, List.map_cons, List.map_nil]); first | done | rfl | (simp only [List.length_drop, List.length_take]; rfl)) ?_; (with_reducible refine (line_Print.calls kj1 t227 _ _ t228 t231 t235 t236 _ (by first | (with_reducible exact hG) | exact GG.below hG (by repeat (first | (with_reducible first | exact HB.out | apply below_alloc | apply pw_below_drewN | apply below_drew1 | refine below_set ?_ GE234.out) | exact HB.out))) ?side1 ?side2 A12.out).mono ?_); (case side1 => refine (Kd.S_reads' (e := 53) (base := w.heap.size) (ok := fun k_ => True) (n := t228.length) (c := co51) ?_).2.2; exact (by (with_reducible repeat (first | apply Kd.S_alloc | apply Kd.S_drewN | apply Kd.S_drew)); exact (Kd.S_mono (Kd.S_far (p := ⟨gb234, 2, none⟩) (Kd.S_far (p := ⟨gb234, 1, none⟩) (Kd.S_far (p := ⟨gb234, 0, none⟩) (Kd.S_types HO230.out BK234.out (by decide)) (fun _ hk => hk.2) (.string t227)) (fun _ hk => hk.2) (.slice Ao51 t228.length co51)) (fun _ hk => hk.2) (.string t231)) (fun _ h_ => h_.1)))); (case side2 => exact (Kd.S_reads' HO230.out).2.1); rintro e w52 ⟨rfl, hb⟩; refine ⟨_, rfl, ?_⟩; have n0_ := Aside0.mk (Kd.S_below (by (with_reducible repeat (first | apply Kd.S_alloc | apply Kd.S_drewN | apply Kd.S_drew)); exact (Kd.S_mono (Kd.S_far (p := ⟨gb234, 2, none⟩) (Kd.S_far (p := ⟨gb234, 1, none⟩) (Kd.S_far (p := ⟨gb234, 0, none⟩) (Kd.S_types HO230.out BK234.out (by decide)) (fun _ hk => hk.2) (.string t227)) (fun _ hk => hk.2) (.slice Ao51 t228.length co51)) (fun _ hk => hk.2) (.string t231)) (fun _ h_ => h_.1))) hb); have n1_ := Aside0.mk (blk_below (g := gb234) (o := .cells #[.string t227, .slice Ao51 t228.length co51, .string t231] 32 (0, 0)) (by (with_reducible repeat (first | refine blk_drewN ?_ _ | refine blk_drew ?_ | refine blk_alloc ?_ _)); refine blk_put (cs := #[.string t227, .slice Ao51 t228.length co51, .string (⟨#[]⟩ : ByteArray)]) ?_ 2 _ rfl; (with_reducible repeat (first | refine blk_drewN ?_ _ | refine blk_drew ?_ | refine blk_alloc ?_ _)); refine blk_put (cs := #[.string t227, .slice none 0 0, .string (⟨#[]⟩ : ByteArray)]) ?_ 1 _ rfl; (with_reducible repeat (first | refine blk_drewN ?_ _ | refine blk_drew ?_ | refine blk_alloc ?_ _)); refine blk_put (cs := #[.string (⟨#[]⟩ : ByteArray), .slice none 0 0, .string (⟨#[]⟩ : ByteArray)]) ?_ 0 _ rfl; (with_reducible repeat (first | refine blk_drewN ?_ _ | refine blk_drew ?_ | refine blk_alloc ?_ _)); exact BK234.out) hb); have n2_ := Aside0.mk (below_step (by repeat (first | (with_reducible first | exact HB.out | apply below_alloc | apply pw_below_drewN | apply below_drew1 | refine below_set ?_ GE234.out) | exact HB.out)) hb); clear HO230; clear BK234; clear HB; have HO230 := n0_; have BK234 := n1_; have HB := n2_; clear n0_ n1_ n2_; (try clear hb); (try clear hb2); (try clear hk); (try clear hi)) | ((with_reducible refine gate_callee (f := 15) rfl ?_); refine goesL_ (some 34) rfl rfl Tryz.func15 (by kernel_rfl) rfl #[.string t235] rfl (by (try simp only [List.map_toArray, List.map_cons, List.map_nil]); first | done | rfl | (simp only [List.length_drop, List.length_take]; rfl)) ?_; (with_reducible refine (line_Parse.calls kj1 t235 t237 t238 t241 t242 t243 _ (by first | (with_reducible exact hG) | exact GG.below hG (by repeat (first | (with_reducible first | exact HB.out | apply below_alloc | apply pw_below_drewN | apply below_drew1 | refine below_set ?_ GE234.out) | exact HB.out))) A13.out).mono ?_); rintro e w53 ⟨v239, rfl, ho0, hb⟩; refine ⟨_, rfl, ?_⟩; have n0_ := Aside0.mk (Kd.S_elder' (by (with_reducible repeat (first | apply Kd.S_alloc | apply Kd.S_drewN | apply Kd.S_drew)); exact HO230.out) (Kd.S_base ho0) hb); have n1_ := Aside0.mk (Kd.S_lower (Kd.S_new' ho0 (Kd.S_lt (by (with_reducible repeat (first | apply Kd.S_alloc | apply Kd.S_drewN | apply Kd.S_drew)); exact HO230.out))) (below_size (by repeat (first | (with_reducible first | exact HB.out | apply below_alloc | apply pw_below_drewN | apply below_drew1 | refine below_set ?_ GE234.out) | exact HB.out)))); have n2_ := Aside0.mk (blk_below (g := gb234) (o := .cells #[.string t227, .slice Ao51 t228.length co51, .string t231] 32 (0, 0)) (by (with_reducible repeat (first | refine blk_drewN ?_ _ | refine blk_drew ?_ | refine blk_alloc ?_ _)); exact BK234.out) hb); have n3_ := Aside0.mk (below_step (by repeat (first | (with_reducible first | exact HB.out | apply below_alloc | apply pw_below_drewN | apply below_drew1 | refine below_set ?_ GE234.out) | exact HB.out)) hb); clear HO230; clear BK234; clear HB; have HO230 := n0_; have HO240 := n1_; have BK234 := n2_; have HB := n3_; clear n0_ n1_ n2_ n3_; (try clear hb); (try clear hb2); (try clear hk); (try clear hi); (try clear ho0)) | ((with_reducible refine gate_dst (N := 8) rfl ?_); (try (refine gate_guard (by rfl) ?_; dsimp only)); refine box_event ?hg (N := 8) ?hd (cs := #[.string (⟨#[]⟩ : ByteArray), .slice none 0 0, .string (⟨#[]⟩ : ByteArray)]) (t := 32) ?hr ?_; (case hd => rfl); (case hg => rfl); (case hr => first | (go_simp; done) | (go_simp; rfl)); intro gb244 hg w54 hbox hb; have n0_ := Aside0.mk (Kd.S_below (by (with_reducible repeat (first | apply Kd.S_alloc | apply Kd.S_drewN | apply Kd.S_drew)); exact HO230.out) hb); have n1_ := Aside0.mk (Kd.S_below (by (with_reducible repeat (first | apply Kd.S_alloc | apply Kd.S_drewN | apply Kd.S_drew)); exact HO240.out) hb); have n2_ := Aside0.mk (blk_below (g := gb234) (o := .cells #[.string t227, .slice Ao51 t228.length co51, .string t231] 32 (0, 0)) (by (with_reducible repeat (first | refine blk_drewN ?_ _ | refine blk_drew ?_ | refine blk_alloc ?_ _)); exact BK234.out) hb); have n3_ := Aside0.mk (below_step (by repeat (first | (with_reducible first | exact HB.out | apply below_alloc | apply pw_below_drewN | apply below_drew1 | refine below_set ?_ GE234.out) | exact HB.out)) hb); have n4_ := Aside0.mk (hbox); have n5_ := Aside0.mk ((by rw [hg]; exact (below_size (by repeat (first | (with_reducible first | exact HB.out | apply below_alloc | apply pw_below_drewN | apply below_drew1 | refine below_set ?_ GE234.out) | exact HB.out))) : w.heap.size ≤ gb244)); have n6_ := Aside0.mk ((by rw [hg]; exact (below_size (by repeat (first | (with_reducible first | exact HB.out | apply below_alloc | apply pw_below_drewN | apply below_drew1 | refine below_set ?_ GE234.out) | exact HB.out))) : w.heap.size ≤ gb244)); have n7_ := Aside0.mk ((by rw [hg]; exact Nat.ne_of_lt (blk_lt (g := gb234) (o := .cells #[.string t227, .slice Ao51 t228.length co51, .string t231] 32 (0, 0)) (by (with_reducible repeat (first | refine blk_drewN ?_ _ | refine blk_drew ?_ | refine blk_alloc ?_ _)); exact BK234.out)) : gb234 ≠ gb244)); have n8_ := Aside0.mk ((by rw [hg]; exact Nat.ne_of_gt (blk_lt (g := gb234) (o := .cells #[.string t227, .slice Ao51 t228.length co51, .string t231] 32 (0, 0)) (by (with_reducible repeat (first | refine blk_drewN ?_ _ | refine blk_drew ?_ | refine blk_alloc ?_ _)); exact BK234.out)) : gb244 ≠ gb234)); clear HO230; clear HO240; clear BK234; clear HB; have HO230 := n0_; have HO240 := n1_; have BK234 := n2_; have HB := n3_; have BK244 := n4_; have GW244 := n5_; have GE244 := n6_; have NB234_244 := n7_; have NB244_234 := n8_; clear n0_ n1_ n2_ n3_ n4_ n5_ n6_ n7_ n8_; clear hb hbox hg; have hnb55 := NB244_234.out; have hnc55 := NB234_244.out; have hcz56_0 : w54.cell? ⟨gb244, 0, none⟩ = some (.string (⟨#[]⟩ : ByteArray)) := (blk_cell BK244.out 0).trans rfl; have hcz56_1 : w54.cell? ⟨gb244, 1, none⟩ = some (.slice none 0 0) := (blk_cell BK244.out 1).trans rfl; have hcz56_2 : w54.cell? ⟨gb244, 2, none⟩ = some (.string (⟨#[]⟩ : ByteArray)) := (blk_cell BK244.out 2).trans rfl; have hfz56_0 := blk_frozen BK244.out 0; have hfz56_1 := blk_frozen BK244.out 1; have hfz56_2 := blk_frozen BK244.out 2; obtain ⟨Ao57, co57, eo57⟩ := Kd.S_slice HO240.out; subst eo57; have hcz58_0 : w54.cell? ⟨gb234, 0, none⟩ = some (.string t227) := (blk_cell BK234.out 0).trans rfl; have hcz58_1 : w54.cell? ⟨gb234, 1, none⟩ = some (.slice Ao51 t228.length co51) := (blk_cell BK234.out 1).trans rfl; have hcz58_2 : w54.cell? ⟨gb234, 2, none⟩ = some (.string t231) := (blk_cell BK234.out 2).trans rfl; have hfz58_0 := blk_frozen BK234.out 0; have hfz58_1 := blk_frozen BK234.out 1; have hfz58_2 := blk_frozen BK234.out 2) | ((with_reducible refine gate_callee (f := 11) rfl ?_); refine goesL_ (some 39) rfl rfl Tryz.func11 (by kernel_rfl) rfl #[.agg #[.string t227, .slice Ao51 t228.length co51, .string t231]] rfl (by (try simp only [List.map_toArray, List.map_cons, List.map_nil]); first | done | rfl | (simp only [List.length_drop, List.length_take]; rfl)) ?_; (with_reducible refine (line_Formed.calls kj1 t227 _ _ t228 t231 true _ (by first | (with_reducible exact hG) | exact GG.below hG (by repeat (first | (with_reducible first | exact HB.out | apply below_alloc | apply pw_below_drewN | apply below_drew1 | refine below_set ?_ GE234.out | refine below_set ?_ GE244.out) | exact HB.out))) ?side1 ?side2 A14.out).mono ?_); (case side1 => refine (Kd.S_reads' (e := 53) (base := w.heap.size) (ok := fun k_ => (True ∧ some k_ ≠ (.slice Ao57 t238.length co57 : Value).ownBlock)) (n := t228.length) (c := co51) ?_).2.2; exact (by (with_reducible repeat (first | apply Kd.S_alloc | apply Kd.S_drewN | apply Kd.S_drew)); exact (Kd.S_mono (Kd.S_far (p := ⟨gb244, 2, none⟩) (Kd.S_far (p := ⟨gb244, 1, none⟩) (Kd.S_far (p := ⟨gb244, 0, none⟩) (Kd.S_types HO230.out BK244.out (by decide)) (fun _ hk => hk.2) (.string t237)) (fun _ hk => hk.2) (.slice Ao57 t238.length co57)) (fun _ hk => hk.2) (.string t241)) (fun _ h_ => h_.1)))); (case side2 => exact (Kd.S_reads' HO230.out).2.1); rintro e w59 ⟨rfl, hb⟩; refine ⟨_, rfl, ?_⟩; have n0_ := Aside0.mk (Kd.S_below (by (with_reducible repeat (first | apply Kd.S_alloc | apply Kd.S_drewN | apply Kd.S_drew)); exact (Kd.S_mono (Kd.S_far (p := ⟨gb244, 2, none⟩) (Kd.S_far (p := ⟨gb244, 1, none⟩) (Kd.S_far (p := ⟨gb244, 0, none⟩) (Kd.S_types HO230.out BK244.out (by decide)) (fun _ hk => hk.2) (.string t237)) (fun _ hk => hk.2) (.slice Ao57 t238.length co57)) (fun _ hk => hk.2) (.string t241)) (fun _ h_ => h_.1))) hb); have n1_ := Aside0.mk (Kd.S_below (by (with_reducible repeat (first | apply Kd.S_alloc | apply Kd.S_drewN | apply Kd.S_drew)); exact (Kd.S_mono (Kd.S_far (p := ⟨gb244, 2, none⟩) (Kd.S_far (p := ⟨gb244, 1, none⟩) (Kd.S_far (p := ⟨gb244, 0, none⟩) (Kd.S_types HO240.out BK244.out (by decide)) (fun _ hk => hk.2) (.string t237)) (fun _ hk => hk.2) (.slice Ao57 t238.length co57)) (fun _ hk => hk.2) (.string t241)) (fun _ h_ => h_.1))) hb); have n2_ := Aside0.mk (blk_below (g := gb234) (o := .cells #[.string t227, .slice Ao51 t228.length co51, .string t231] 32 (0, 0)) (by (with_reducible repeat (first | refine blk_drewN ?_ _ | refine blk_drew ?_ | refine blk_alloc ?_ _)); refine blk_far ?_ NB234_244.out _; (with_reducible repeat (first | refine blk_drewN ?_ _ | refine blk_drew ?_ | refine blk_alloc ?_ _)); refine blk_far ?_ NB234_244.out _; (with_reducible repeat (first | refine blk_drewN ?_ _ | refine blk_drew ?_ | refine blk_alloc ?_ _)); refine blk_far ?_ NB234_244.out _; (with_reducible repeat (first | refine blk_drewN ?_ _ | refine blk_drew ?_ | refine blk_alloc ?_ _)); exact BK234.out) hb); have n3_ := Aside0.mk (blk_below (g := gb244) (o := .cells #[.string t237, .slice Ao57 t238.length co57, .string t241] 32 (0, 0)) (by (with_reducible repeat (first | refine blk_drewN ?_ _ | refine blk_drew ?_ | refine blk_alloc ?_ _)); refine blk_put (cs := #[.string t237, .slice Ao57 t238.length co57, .string (⟨#[]⟩ : ByteArray)]) ?_ 2 _ rfl; (with_reducible repeat (first | refine blk_drewN ?_ _ | refine blk_drew ?_ | refine blk_alloc ?_ _)); refine blk_put (cs := #[.string t237, .slice none 0 0, .string (⟨#[]⟩ : ByteArray)]) ?_ 1 _ rfl; (with_reducible repeat (first | refine blk_drewN ?_ _ | refine blk_drew ?_ | refine blk_alloc ?_ _)); refine blk_put (cs := #[.string (⟨#[]⟩ : ByteArray), .slice none 0 0, .string (⟨#[]⟩ : ByteArray)]) ?_ 0 _ rfl; (with_reducible repeat (first | refine blk_drewN ?_ _ | refine blk_drew ?_ | refine blk_alloc ?_ _)); exact BK244.out) hb); have n4_ := Aside0.mk (below_step (by repeat (first | (with_reducible first | exact HB.out | apply below_alloc | apply pw_below_drewN | apply below_drew1 | refine below_set ?_ GE234.out | refine below_set ?_ GE244.out) | exact HB.out)) hb); clear HO230; clear HO240; clear BK234; clear BK244; clear HB; have HO230 := n0_; have HO240 := n1_; have BK234 := n2_; have BK244 := n3_; have HB := n4_; clear n0_ n1_ n2_ n3_ n4_; (try clear hb); (try clear hb2); (try clear hk); (try clear hi)))
                    go_ret
                    exact ⟨by first | rfl | (simp [errW_none, errW_some] <;> rfl) | (simp [*, errW_none, errW_some] <;> rfl), by repeat (first | (with_reducible first | exact HB.out | apply below_alloc | apply pw_below_drewN | apply below_drew1 | refine below_set ?_ GE234.out | refine below_set ?_ GE244.out) | exact HB.out)⟩
                · rw [if_neg c30] at H
                  have c30b0 : (t236 == 0) = false := beq_eq_false_iff_ne.mpr c30
                  have c30b1 : (t236 != 0) = true := bne_iff_ne.mpr c30
                  obtain rfl := Option.some.inj H
                  go_wp2_with (first | ((with_reducible refine gate_callee (f := 15) rfl ?_); refine goesL_ (some 21) rfl rfl Tryz.func15 (by kernel_rfl) rfl #[.string a0] rfl (by (try simp only [List.map_toArray, List.map_cons, List.map_nil]); first | done | rfl | (simp only [List.length_drop, List.length_take]; rfl)) ?_; (with_reducible refine (line_Parse.calls kj1 a0 t227 t228 t231 t232 t233 _ (by first | (with_reducible exact hG) | exact GG.below hG (by repeat (first | (with_reducible first | exact HB.out | apply below_alloc | apply pw_below_drewN | apply below_drew1) | exact HB.out))) A10.out).mono ?_); rintro e w60 ⟨v229, rfl, ho0, hb⟩; refine ⟨_, rfl, ?_⟩; have n0_ := Aside0.mk (Kd.S_lower ho0 (below_size (by repeat (first | (with_reducible first | exact HB.out | apply below_alloc | apply pw_below_drewN | apply below_drew1) | exact HB.out)))); have n1_ := Aside0.mk (below_step (by repeat (first | (with_reducible first | exact HB.out | apply below_alloc | apply pw_below_drewN | apply below_drew1) | exact HB.out)) hb); clear HB; have HO230 := n0_; have HB := n1_; clear n0_ n1_; (try clear hb); (try clear hb2); (try clear hk); (try clear hi); (try clear ho0)) | ((with_reducible refine gate_dst (N := 3) rfl ?_); (try (refine gate_guard (by rfl) ?_; dsimp only)); refine box_event ?hg (N := 3) ?hd (cs := #[.string (⟨#[]⟩ : ByteArray), .slice none 0 0, .string (⟨#[]⟩ : ByteArray)]) (t := 32) ?hr ?_; (case hd => rfl); (case hg => rfl); (case hr => first | (go_simp; done) | (go_simp; rfl)); intro gb234 hg w61 hbox hb; have n0_ := Aside0.mk (Kd.S_below (by (with_reducible repeat (first | apply Kd.S_alloc | apply Kd.S_drewN | apply Kd.S_drew)); exact HO230.out) hb); have n1_ := Aside0.mk (below_step (by repeat (first | (with_reducible first | exact HB.out | apply below_alloc | apply pw_below_drewN | apply below_drew1) | exact HB.out)) hb); have n2_ := Aside0.mk (hbox); have n3_ := Aside0.mk ((by rw [hg]; exact (below_size (by repeat (first | (with_reducible first | exact HB.out | apply below_alloc | apply pw_below_drewN | apply below_drew1) | exact HB.out))) : w.heap.size ≤ gb234)); have n4_ := Aside0.mk ((by rw [hg]; exact (below_size (by repeat (first | (with_reducible first | exact HB.out | apply below_alloc | apply pw_below_drewN | apply below_drew1) | exact HB.out))) : w.heap.size ≤ gb234)); clear HO230; clear HB; have HO230 := n0_; have HB := n1_; have BK234 := n2_; have GW234 := n3_; have GE234 := n4_; clear n0_ n1_ n2_ n3_ n4_; clear hb hbox hg; have hcz62_0 : w61.cell? ⟨gb234, 0, none⟩ = some (.string (⟨#[]⟩ : ByteArray)) := (blk_cell BK234.out 0).trans rfl; have hcz62_1 : w61.cell? ⟨gb234, 1, none⟩ = some (.slice none 0 0) := (blk_cell BK234.out 1).trans rfl; have hcz62_2 : w61.cell? ⟨gb234, 2, none⟩ = some (.string (⟨#[]⟩ : ByteArray)) := (blk_cell BK234.out 2).trans rfl; have hfz62_0 := blk_frozen BK234.out 0; have hfz62_1 := blk_frozen BK234.out 1; have hfz62_2 := blk_frozen BK234.out 2; obtain ⟨Ao63, co63, eo63⟩ := Kd.S_slice HO230.out; subst eo63) | ((with_reducible refine gate_callee (f := 8) rfl ?_); refine goesL_ (some 29) rfl rfl Tryz.func8 (by kernel_rfl) rfl #[.agg #[.string t227, .slice Ao63 t228.length co63, .string t231]] rfl (by (try simp only [List.map_toArray, List.map_cons, List.map_nil]); first | done | rfl | (simp only [List.length_drop, List.length_take]; rfl)) ?_; (with_reducible refine (line_Print.calls kj1 t227 _ _ t228 t231 t235 t236 _ (by first | (with_reducible exact hG) | exact GG.below hG (by repeat (first | (with_reducible first | exact HB.out | apply below_alloc | apply pw_below_drewN | apply below_drew1 | refine below_set ?_ GE234.out) | exact HB.out))) ?side1 ?side2 A12.out).mono ?_); (case side1 => refine (Kd.S_reads' (e := 53) (base := w.heap.size) (ok := fun k_ => True) (n := t228.length) (c := co63) ?_).2.2; exact (by (with_reducible repeat (first | apply Kd.S_alloc | apply Kd.S_drewN | apply Kd.S_drew)); exact (Kd.S_mono (Kd.S_far (p := ⟨gb234, 2, none⟩) (Kd.S_far (p := ⟨gb234, 1, none⟩) (Kd.S_far (p := ⟨gb234, 0, none⟩) (Kd.S_types HO230.out BK234.out (by decide)) (fun _ hk => hk.2) (.string t227)) (fun _ hk => hk.2) (.slice Ao63 t228.length co63)) (fun _ hk => hk.2) (.string t231)) (fun _ h_ => h_.1)))); (case side2 => exact (Kd.S_reads' HO230.out).2.1); rintro e w64 ⟨rfl, hb⟩; refine ⟨_, rfl, ?_⟩; have n0_ := Aside0.mk (Kd.S_below (by (with_reducible repeat (first | apply Kd.S_alloc | apply Kd.S_drewN | apply Kd.S_drew)); exact (Kd.S_mono (Kd.S_far (p := ⟨gb234, 2, none⟩) (Kd.S_far (p := ⟨gb234, 1, none⟩) (Kd.S_far (p := ⟨gb234, 0, none⟩) (Kd.S_types HO230.out BK234.out (by decide)) (fun _ hk => hk.2) (.string t227)) (fun _ hk => hk.2) (.slice Ao63 t228.length co63)) (fun _ hk => hk.2) (.string t231)) (fun _ h_ => h_.1))) hb); have n1_ := Aside0.mk (blk_below (g := gb234) (o := .cells #[.string t227, .slice Ao63 t228.length co63, .string t231] 32 (0, 0)) (by (with_reducible repeat (first | refine blk_drewN ?_ _ | refine blk_drew ?_ | refine blk_alloc ?_ _)); refine blk_put (cs := #[.string t227, .slice Ao63 t228.length co63, .string (⟨#[]⟩ : ByteArray)]) ?_ 2 _ rfl; (with_reducible repeat (first | refine blk_drewN ?_ _ | refine blk_drew ?_ | refine blk_alloc ?_ _)); refine blk_put (cs := #[.string t227, .slice none 0 0, .string (⟨#[]⟩ : ByteArray)]) ?_ 1 _ rfl; (with_reducible repeat (first | refine blk_drewN ?_ _ | refine blk_drew ?_ | refine blk_alloc ?_ _)); refine blk_put (cs := #[.string (⟨#[]⟩ : ByteArray), .slice none 0 0, .string (⟨#[]⟩ : ByteArray)]) ?_ 0 _ rfl; (with_reducible repeat (first | refine blk_drewN ?_ _ | refine blk_drew ?_ | refine blk_alloc ?_ _)); exact BK234.out) hb); have n2_ := Aside0.mk (below_step (by repeat (first | (with_reducible first | exact HB.out | apply below_alloc | apply pw_below_drewN | apply below_drew1 | refine below_set ?_ GE234.out) | exact HB.out)) hb); clear HO230; clear BK234; clear HB; have HO230 := n0_; have BK234 := n1_; have HB := n2_; clear n0_ n1_ n2_; (try clear hb); (try clear hb2); (try clear hk); (try clear hi)) | ((with_reducible refine gate_callee (f := 15) rfl ?_); refine goesL_ (some 34) rfl rfl Tryz.func15 (by kernel_rfl) rfl #[.string t235] rfl (by (try simp only [List.map_toArray, List.map_cons, List.map_nil]); first | done | rfl | (simp only [List.length_drop, List.length_take]; rfl)) ?_; (with_reducible refine (line_Parse.calls kj1 t235 t237 t238 t241 t242 t243 _ (by first | (with_reducible exact hG) | exact GG.below hG (by repeat (first | (with_reducible first | exact HB.out | apply below_alloc | apply pw_below_drewN | apply below_drew1 | refine below_set ?_ GE234.out) | exact HB.out))) A13.out).mono ?_); rintro e w65 ⟨v239, rfl, ho0, hb⟩; refine ⟨_, rfl, ?_⟩; have n0_ := Aside0.mk (Kd.S_elder' (by (with_reducible repeat (first | apply Kd.S_alloc | apply Kd.S_drewN | apply Kd.S_drew)); exact HO230.out) (Kd.S_base ho0) hb); have n1_ := Aside0.mk (Kd.S_lower (Kd.S_new' ho0 (Kd.S_lt (by (with_reducible repeat (first | apply Kd.S_alloc | apply Kd.S_drewN | apply Kd.S_drew)); exact HO230.out))) (below_size (by repeat (first | (with_reducible first | exact HB.out | apply below_alloc | apply pw_below_drewN | apply below_drew1 | refine below_set ?_ GE234.out) | exact HB.out)))); have n2_ := Aside0.mk (blk_below (g := gb234) (o := .cells #[.string t227, .slice Ao63 t228.length co63, .string t231] 32 (0, 0)) (by (with_reducible repeat (first | refine blk_drewN ?_ _ | refine blk_drew ?_ | refine blk_alloc ?_ _)); exact BK234.out) hb); have n3_ := Aside0.mk (below_step (by repeat (first | (with_reducible first | exact HB.out | apply below_alloc | apply pw_below_drewN | apply below_drew1 | refine below_set ?_ GE234.out) | exact HB.out)) hb); clear HO230; clear BK234; clear HB; have HO230 := n0_; have HO240 := n1_; have BK234 := n2_; have HB := n3_; clear n0_ n1_ n2_ n3_; (try clear hb); (try clear hb2); (try clear hk); (try clear hi); (try clear ho0)) | ((with_reducible refine gate_dst (N := 8) rfl ?_); (try (refine gate_guard (by rfl) ?_; dsimp only)); refine box_event ?hg (N := 8) ?hd (cs := #[.string (⟨#[]⟩ : ByteArray), .slice none 0 0, .string (⟨#[]⟩ : ByteArray)]) (t := 32) ?hr ?_; (case hd => rfl); (case hg => rfl); (case hr => first | (go_simp; done) | (go_simp; rfl)); intro gb244 hg w66 hbox hb; have n0_ := Aside0.mk (Kd.S_below (by (with_reducible repeat (first | apply Kd.S_alloc | apply Kd.S_drewN | apply Kd.S_drew)); exact HO230.out) hb); have n1_ := Aside0.mk (Kd.S_below (by (with_reducible repeat (first | apply Kd.S_alloc | apply Kd.S_drewN | apply Kd.S_drew)); exact HO240.out) hb); have n2_ := Aside0.mk (blk_below (g := gb234) (o := .cells #[.string t227, .slice Ao63 t228.length co63, .string t231] 32 (0, 0)) (by (with_reducible repeat (first | refine blk_drewN ?_ _ | refine blk_drew ?_ | refine blk_alloc ?_ _)); exact BK234.out) hb); have n3_ := Aside0.mk (below_step (by repeat (first | (with_reducible first | exact HB.out | apply below_alloc | apply pw_below_drewN | apply below_drew1 | refine below_set ?_ GE234.out) | exact HB.out)) hb); have n4_ := Aside0.mk (hbox); have n5_ := Aside0.mk ((by rw [hg]; exact (below_size (by repeat (first | (with_reducible first | exact HB.out | apply below_alloc | apply pw_below_drewN | apply below_drew1 | refine below_set ?_ GE234.out) | exact HB.out))) : w.heap.size ≤ gb244)); have n6_ := Aside0.mk ((by rw [hg]; exact (below_size (by repeat (first | (with_reducible first | exact HB.out | apply below_alloc | apply pw_below_drewN | apply below_drew1 | refine below_set ?_ GE234.out) | exact HB.out))) : w.heap.size ≤ gb244)); have n7_ := Aside0.mk ((by rw [hg]; exact Nat.ne_of_lt (blk_lt (g := gb234) (o := .cells #[.string t227, .slice Ao63 t228.length co63, .string t231] 32 (0, 0)) (by (with_reducible repeat (first | refine blk_drewN ?_ _ | refine blk_drew ?_ | refine blk_alloc ?_ _)); exact BK234.out)) : gb234 ≠ gb244)); have n8_ := Aside0.mk ((by rw [hg]; exact Nat.ne_of_gt (blk_lt (g := gb234) (o := .cells #[.string t227, .slice Ao63 t228.length co63, .string t231] 32 (0, 0)) (by (with_reducible repeat (first | refine blk_drewN ?_ _ | refine blk_drew ?_ | refine blk_alloc ?_ _)); exact BK234.out)) : gb244 ≠ gb234)); clear HO230; clear HO240; clear BK234; clear HB; have HO230 := n0_; have HO240 := n1_; have BK234 := n2_; have HB := n3_; have BK244 := n4_; have GW244 := n5_; have GE244 := n6_; have NB234_244 := n7_; have NB244_234 := n8_; clear n0_ n1_ n2_ n3_ n4_ n5_ n6_ n7_ n8_; clear hb hbox hg; have hnb67 := NB244_234.out; have hnc67 := NB234_244.out; have hcz68_0 : w66.cell? ⟨gb244, 0, none⟩ = some (.string (⟨#[]⟩ : ByteArray)) := (blk_cell BK244.out 0).trans rfl; have hcz68_1 : w66.cell? ⟨gb244, 1, none⟩ = some (.slice none 0 0) := (blk_cell BK244.out 1).trans rfl; have hcz68_2 : w66.cell? ⟨gb244, 2, none⟩ = some (.string (⟨#[]⟩ : ByteArray)) := (blk_cell BK244.out 2).trans rfl; have hfz68_0 := blk_frozen BK244.out 0; have hfz68_1 := blk_frozen BK244.out 1; have hfz68_2 := blk_frozen BK244.out 2; obtain ⟨Ao69, co69, eo69⟩ := Kd.S_slice HO240.out; subst eo69; have hcz70_0 : w66.cell? ⟨gb234, 0, none⟩ = some (.string t227) := (blk_cell BK234.out 0).trans rfl; have hcz70_1 : w66.cell? ⟨gb234, 1, none⟩ = some (.slice Ao63 t228.length co63) := (blk_cell BK234.out 1).trans rfl; have hcz70_2 : w66.cell? ⟨gb234, 2, none⟩ = some (.string t231) := (blk_cell BK234.out 2).trans rfl; have hfz70_0 := blk_frozen BK234.out 0; have hfz70_1 := blk_frozen BK234.out 1; have hfz70_2 := blk_frozen BK234.out 2) | ((with_reducible refine gate_callee (f := 11) rfl ?_); refine goesL_ (some 39) rfl rfl Tryz.func11 (by kernel_rfl) rfl #[.agg #[.string t227, .slice Ao63 t228.length co63, .string t231]] rfl (by (try simp only [List.map_toArray, List.map_cons, List.map_nil]); first | done | rfl | (simp only [List.length_drop, List.length_take]; rfl)) ?_; (with_reducible refine (line_Formed.calls kj1 t227 _ _ t228 t231 true _ (by first | (with_reducible exact hG) | exact GG.below hG (by repeat (first | (with_reducible first | exact HB.out | apply below_alloc | apply pw_below_drewN | apply below_drew1 | refine below_set ?_ GE234.out | refine below_set ?_ GE244.out) | exact HB.out))) ?side1 ?side2 A14.out).mono ?_); (case side1 => refine (Kd.S_reads' (e := 53) (base := w.heap.size) (ok := fun k_ => (True ∧ some k_ ≠ (.slice Ao69 t238.length co69 : Value).ownBlock)) (n := t228.length) (c := co63) ?_).2.2; exact (by (with_reducible repeat (first | apply Kd.S_alloc | apply Kd.S_drewN | apply Kd.S_drew)); exact (Kd.S_mono (Kd.S_far (p := ⟨gb244, 2, none⟩) (Kd.S_far (p := ⟨gb244, 1, none⟩) (Kd.S_far (p := ⟨gb244, 0, none⟩) (Kd.S_types HO230.out BK244.out (by decide)) (fun _ hk => hk.2) (.string t237)) (fun _ hk => hk.2) (.slice Ao69 t238.length co69)) (fun _ hk => hk.2) (.string t241)) (fun _ h_ => h_.1)))); (case side2 => exact (Kd.S_reads' HO230.out).2.1); rintro e w71 ⟨rfl, hb⟩; refine ⟨_, rfl, ?_⟩; have n0_ := Aside0.mk (Kd.S_below (by (with_reducible repeat (first | apply Kd.S_alloc | apply Kd.S_drewN | apply Kd.S_drew)); exact (Kd.S_mono (Kd.S_far (p := ⟨gb244, 2, none⟩) (Kd.S_far (p := ⟨gb244, 1, none⟩) (Kd.S_far (p := ⟨gb244, 0, none⟩) (Kd.S_types HO230.out BK244.out (by decide)) (fun _ hk => hk.2) (.string t237)) (fun _ hk => hk.2) (.slice Ao69 t238.length co69)) (fun _ hk => hk.2) (.string t241)) (fun _ h_ => h_.1))) hb); have n1_ := Aside0.mk (Kd.S_below (by (with_reducible repeat (first | apply Kd.S_alloc | apply Kd.S_drewN | apply Kd.S_drew)); exact (Kd.S_mono (Kd.S_far (p := ⟨gb244, 2, none⟩) (Kd.S_far (p := ⟨gb244, 1, none⟩) (Kd.S_far (p := ⟨gb244, 0, none⟩) (Kd.S_types HO240.out BK244.out (by decide)) (fun _ hk => hk.2) (.string t237)) (fun _ hk => hk.2) (.slice Ao69 t238.length co69)) (fun _ hk => hk.2) (.string t241)) (fun _ h_ => h_.1))) hb); have n2_ := Aside0.mk (blk_below (g := gb234) (o := .cells #[.string t227, .slice Ao63 t228.length co63, .string t231] 32 (0, 0)) (by (with_reducible repeat (first | refine blk_drewN ?_ _ | refine blk_drew ?_ | refine blk_alloc ?_ _)); refine blk_far ?_ NB234_244.out _; (with_reducible repeat (first | refine blk_drewN ?_ _ | refine blk_drew ?_ | refine blk_alloc ?_ _)); refine blk_far ?_ NB234_244.out _; (with_reducible repeat (first | refine blk_drewN ?_ _ | refine blk_drew ?_ | refine blk_alloc ?_ _)); refine blk_far ?_ NB234_244.out _; (with_reducible repeat (first | refine blk_drewN ?_ _ | refine blk_drew ?_ | refine blk_alloc ?_ _)); exact BK234.out) hb); have n3_ := Aside0.mk (blk_below (g := gb244) (o := .cells #[.string t237, .slice Ao69 t238.length co69, .string t241] 32 (0, 0)) (by (with_reducible repeat (first | refine blk_drewN ?_ _ | refine blk_drew ?_ | refine blk_alloc ?_ _)); refine blk_put (cs := #[.string t237, .slice Ao69 t238.length co69, .string (⟨#[]⟩ : ByteArray)]) ?_ 2 _ rfl; (with_reducible repeat (first | refine blk_drewN ?_ _ | refine blk_drew ?_ | refine blk_alloc ?_ _)); refine blk_put (cs := #[.string t237, .slice none 0 0, .string (⟨#[]⟩ : ByteArray)]) ?_ 1 _ rfl; (with_reducible repeat (first | refine blk_drewN ?_ _ | refine blk_drew ?_ | refine blk_alloc ?_ _)); refine blk_put (cs := #[.string (⟨#[]⟩ : ByteArray), .slice none 0 0, .string (⟨#[]⟩ : ByteArray)]) ?_ 0 _ rfl; (with_reducible repeat (first | refine blk_drewN ?_ _ | refine blk_drew ?_ | refine blk_alloc ?_ _)); exact BK244.out) hb); have n4_ := Aside0.mk (below_step (by repeat (first | (with_reducible first | exact HB.out | apply below_alloc | apply pw_below_drewN | apply below_drew1 | refine below_set ?_ GE234.out | refine below_set ?_ GE244.out) | exact HB.out)) hb); clear HO230; clear HO240; clear BK234; clear BK244; clear HB; have HO230 := n0_; have HO240 := n1_; have BK234 := n2_; have BK244 := n3_; have HB := n4_; clear n0_ n1_ n2_ n3_ n4_; (try clear hb); (try clear hb2); (try clear hk); (try clear hi)))
                  go_ret
                  exact ⟨by first | rfl | (simp [errW_none, errW_some] <;> rfl) | (simp [*, errW_none, errW_some] <;> rfl), by repeat (first | (with_reducible first | exact HB.out | apply below_alloc | apply pw_below_drewN | apply below_drew1 | refine below_set ?_ GE234.out | refine below_set ?_ GE244.out) | exact HB.out)⟩
            · rw [if_neg c16] at H
              have c16b0 : (t236 == 4) = false := beq_eq_false_iff_ne.mpr c16
              have c16b1 : (t236 != 4) = true := bne_iff_ne.mpr c16
              by_cases c72 : t236 = 0
              · rw [if_pos c72] at H
                have c72b0 : (t236 == 0) = true := beq_iff_eq.mpr c72
                have c72b1 : (t236 != 0) = false := bne_eq_false_iff_eq.mpr c72
                clear c72
                by_cases c73 : t243 = 0
                · rw [if_pos c73] at H
                  have c73b0 : (t243 == 0) = true := beq_iff_eq.mpr c73
                  have c73b1 : (t243 != 0) = false := bne_eq_false_iff_eq.mpr c73
                  clear c73
                  replace H := Option.bind_eq_some_iff.mp H
                  obtain ⟨t247, A740, H⟩ := H
                  replace H : (some t247) = some r := H
                  have A74 := Aside0.mk A740
                  clear A740
                  obtain rfl := Option.some.inj H
                  go_wp2_with (first | ((with_reducible refine gate_callee (f := 15) rfl ?_); refine goesL_ (some 21) rfl rfl Tryz.func15 (by kernel_rfl) rfl #[.string a0] rfl (by (try simp only [List.map_toArray, List.map_cons, List.map_nil]); first | done | rfl | (simp only [List.length_drop, List.length_take]; rfl)) ?_; (with_reducible refine (line_Parse.calls kj1 a0 t227 t228 t231 t232 t233 _ (by first | (with_reducible exact hG) | exact GG.below hG (by repeat (first | (with_reducible first | exact HB.out | apply below_alloc | apply pw_below_drewN | apply below_drew1) | exact HB.out))) A10.out).mono ?_); rintro e w75 ⟨v229, rfl, ho0, hb⟩; refine ⟨_, rfl, ?_⟩; have n0_ := Aside0.mk (Kd.S_lower ho0 (below_size (by repeat (first | (with_reducible first | exact HB.out | apply below_alloc | apply pw_below_drewN | apply below_drew1) | exact HB.out)))); have n1_ := Aside0.mk (below_step (by repeat (first | (with_reducible first | exact HB.out | apply below_alloc | apply pw_below_drewN | apply below_drew1) | exact HB.out)) hb); clear HB; have HO230 := n0_; have HB := n1_; clear n0_ n1_; (try clear hb); (try clear hb2); (try clear hk); (try clear hi); (try clear ho0)) | ((with_reducible refine gate_dst (N := 3) rfl ?_); (try (refine gate_guard (by rfl) ?_; dsimp only)); refine box_event ?hg (N := 3) ?hd (cs := #[.string (⟨#[]⟩ : ByteArray), .slice none 0 0, .string (⟨#[]⟩ : ByteArray)]) (t := 32) ?hr ?_; (case hd => rfl); (case hg => rfl); (case hr => first | (go_simp; done) | (go_simp; rfl)); intro gb234 hg w76 hbox hb; have n0_ := Aside0.mk (Kd.S_below (by (with_reducible repeat (first | apply Kd.S_alloc | apply Kd.S_drewN | apply Kd.S_drew)); exact HO230.out) hb); have n1_ := Aside0.mk (below_step (by repeat (first | (with_reducible first | exact HB.out | apply below_alloc | apply pw_below_drewN | apply below_drew1) | exact HB.out)) hb); have n2_ := Aside0.mk (hbox); have n3_ := Aside0.mk ((by rw [hg]; exact (below_size (by repeat (first | (with_reducible first | exact HB.out | apply below_alloc | apply pw_below_drewN | apply below_drew1) | exact HB.out))) : w.heap.size ≤ gb234)); have n4_ := Aside0.mk ((by rw [hg]; exact (below_size (by repeat (first | (with_reducible first | exact HB.out | apply below_alloc | apply pw_below_drewN | apply below_drew1) | exact HB.out))) : w.heap.size ≤ gb234)); clear HO230; clear HB; have HO230 := n0_; have HB := n1_; have BK234 := n2_; have GW234 := n3_; have GE234 := n4_; clear n0_ n1_ n2_ n3_ n4_; clear hb hbox hg; have hcz77_0 : w76.cell? ⟨gb234, 0, none⟩ = some (.string (⟨#[]⟩ : ByteArray)) := (blk_cell BK234.out 0).trans rfl; have hcz77_1 : w76.cell? ⟨gb234, 1, none⟩ = some (.slice none 0 0) := (blk_cell BK234.out 1).trans rfl; have hcz77_2 : w76.cell? ⟨gb234, 2, none⟩ = some (.string (⟨#[]⟩ : ByteArray)) := (blk_cell BK234.out 2).trans rfl; have hfz77_0 := blk_frozen BK234.out 0; have hfz77_1 := blk_frozen BK234.out 1; have hfz77_2 := blk_frozen BK234.out 2; obtain ⟨Ao78, co78, eo78⟩ := Kd.S_slice HO230.out; subst eo78) | ((with_reducible refine gate_callee (f := 8) rfl ?_); refine goesL_ (some 29) rfl rfl Tryz.func8 (by kernel_rfl) rfl #[.agg #[.string t227, .slice Ao78 t228.length co78, .string t231]] rfl (by (try simp only [List.map_toArray, List.map_cons, List.map_nil]); first | done | rfl | (simp only [List.length_drop, List.length_take]; rfl)) ?_; (with_reducible refine (line_Print.calls kj1 t227 _ _ t228 t231 t235 t236 _ (by first | (with_reducible exact hG) | exact GG.below hG (by repeat (first | (with_reducible first | exact HB.out | apply below_alloc | apply pw_below_drewN | apply below_drew1 | refine below_set ?_ GE234.out) | exact HB.out))) ?side1 ?side2 A12.out).mono ?_); (case side1 => refine (Kd.S_reads' (e := 53) (base := w.heap.size) (ok := fun k_ => True) (n := t228.length) (c := co78) ?_).2.2; exact (by (with_reducible repeat (first | apply Kd.S_alloc | apply Kd.S_drewN | apply Kd.S_drew)); exact (Kd.S_mono (Kd.S_far (p := ⟨gb234, 2, none⟩) (Kd.S_far (p := ⟨gb234, 1, none⟩) (Kd.S_far (p := ⟨gb234, 0, none⟩) (Kd.S_types HO230.out BK234.out (by decide)) (fun _ hk => hk.2) (.string t227)) (fun _ hk => hk.2) (.slice Ao78 t228.length co78)) (fun _ hk => hk.2) (.string t231)) (fun _ h_ => h_.1)))); (case side2 => exact (Kd.S_reads' HO230.out).2.1); rintro e w79 ⟨rfl, hb⟩; refine ⟨_, rfl, ?_⟩; have n0_ := Aside0.mk (Kd.S_below (by (with_reducible repeat (first | apply Kd.S_alloc | apply Kd.S_drewN | apply Kd.S_drew)); exact (Kd.S_mono (Kd.S_far (p := ⟨gb234, 2, none⟩) (Kd.S_far (p := ⟨gb234, 1, none⟩) (Kd.S_far (p := ⟨gb234, 0, none⟩) (Kd.S_types HO230.out BK234.out (by decide)) (fun _ hk => hk.2) (.string t227)) (fun _ hk => hk.2) (.slice Ao78 t228.length co78)) (fun _ hk => hk.2) (.string t231)) (fun _ h_ => h_.1))) hb); have n1_ := Aside0.mk (blk_below (g := gb234) (o := .cells #[.string t227, .slice Ao78 t228.length co78, .string t231] 32 (0, 0)) (by (with_reducible repeat (first | refine blk_drewN ?_ _ | refine blk_drew ?_ | refine blk_alloc ?_ _)); refine blk_put (cs := #[.string t227, .slice Ao78 t228.length co78, .string (⟨#[]⟩ : ByteArray)]) ?_ 2 _ rfl; (with_reducible repeat (first | refine blk_drewN ?_ _ | refine blk_drew ?_ | refine blk_alloc ?_ _)); refine blk_put (cs := #[.string t227, .slice none 0 0, .string (⟨#[]⟩ : ByteArray)]) ?_ 1 _ rfl; (with_reducible repeat (first | refine blk_drewN ?_ _ | refine blk_drew ?_ | refine blk_alloc ?_ _)); refine blk_put (cs := #[.string (⟨#[]⟩ : ByteArray), .slice none 0 0, .string (⟨#[]⟩ : ByteArray)]) ?_ 0 _ rfl; (with_reducible repeat (first | refine blk_drewN ?_ _ | refine blk_drew ?_ | refine blk_alloc ?_ _)); exact BK234.out) hb); have n2_ := Aside0.mk (below_step (by repeat (first | (with_reducible first | exact HB.out | apply below_alloc | apply pw_below_drewN | apply below_drew1 | refine below_set ?_ GE234.out) | exact HB.out)) hb); clear HO230; clear BK234; clear HB; have HO230 := n0_; have BK234 := n1_; have HB := n2_; clear n0_ n1_ n2_; (try clear hb); (try clear hb2); (try clear hk); (try clear hi)) | ((with_reducible refine gate_callee (f := 15) rfl ?_); refine goesL_ (some 34) rfl rfl Tryz.func15 (by kernel_rfl) rfl #[.string t235] rfl (by (try simp only [List.map_toArray, List.map_cons, List.map_nil]); first | done | rfl | (simp only [List.length_drop, List.length_take]; rfl)) ?_; (with_reducible refine (line_Parse.calls kj1 t235 t237 t238 t241 t242 t243 _ (by first | (with_reducible exact hG) | exact GG.below hG (by repeat (first | (with_reducible first | exact HB.out | apply below_alloc | apply pw_below_drewN | apply below_drew1 | refine below_set ?_ GE234.out) | exact HB.out))) A13.out).mono ?_); rintro e w80 ⟨v239, rfl, ho0, hb⟩; refine ⟨_, rfl, ?_⟩; have n0_ := Aside0.mk (Kd.S_elder' (by (with_reducible repeat (first | apply Kd.S_alloc | apply Kd.S_drewN | apply Kd.S_drew)); exact HO230.out) (Kd.S_base ho0) hb); have n1_ := Aside0.mk (Kd.S_lower (Kd.S_new' ho0 (Kd.S_lt (by (with_reducible repeat (first | apply Kd.S_alloc | apply Kd.S_drewN | apply Kd.S_drew)); exact HO230.out))) (below_size (by repeat (first | (with_reducible first | exact HB.out | apply below_alloc | apply pw_below_drewN | apply below_drew1 | refine below_set ?_ GE234.out) | exact HB.out)))); have n2_ := Aside0.mk (blk_below (g := gb234) (o := .cells #[.string t227, .slice Ao78 t228.length co78, .string t231] 32 (0, 0)) (by (with_reducible repeat (first | refine blk_drewN ?_ _ | refine blk_drew ?_ | refine blk_alloc ?_ _)); exact BK234.out) hb); have n3_ := Aside0.mk (below_step (by repeat (first | (with_reducible first | exact HB.out | apply below_alloc | apply pw_below_drewN | apply below_drew1 | refine below_set ?_ GE234.out) | exact HB.out)) hb); clear HO230; clear BK234; clear HB; have HO230 := n0_; have HO240 := n1_; have BK234 := n2_; have HB := n3_; clear n0_ n1_ n2_ n3_; (try clear hb); (try clear hb2); (try clear hk); (try clear hi); (try clear ho0)) | ((with_reducible refine gate_dst (N := 8) rfl ?_); (try (refine gate_guard (by rfl) ?_; dsimp only)); refine box_event ?hg (N := 8) ?hd (cs := #[.string (⟨#[]⟩ : ByteArray), .slice none 0 0, .string (⟨#[]⟩ : ByteArray)]) (t := 32) ?hr ?_; (case hd => rfl); (case hg => rfl); (case hr => first | (go_simp; done) | (go_simp; rfl)); intro gb244 hg w81 hbox hb; have n0_ := Aside0.mk (Kd.S_below (by (with_reducible repeat (first | apply Kd.S_alloc | apply Kd.S_drewN | apply Kd.S_drew)); exact HO230.out) hb); have n1_ := Aside0.mk (Kd.S_below (by (with_reducible repeat (first | apply Kd.S_alloc | apply Kd.S_drewN | apply Kd.S_drew)); exact HO240.out) hb); have n2_ := Aside0.mk (blk_below (g := gb234) (o := .cells #[.string t227, .slice Ao78 t228.length co78, .string t231] 32 (0, 0)) (by (with_reducible repeat (first | refine blk_drewN ?_ _ | refine blk_drew ?_ | refine blk_alloc ?_ _)); exact BK234.out) hb); have n3_ := Aside0.mk (below_step (by repeat (first | (with_reducible first | exact HB.out | apply below_alloc | apply pw_below_drewN | apply below_drew1 | refine below_set ?_ GE234.out) | exact HB.out)) hb); have n4_ := Aside0.mk (hbox); have n5_ := Aside0.mk ((by rw [hg]; exact (below_size (by repeat (first | (with_reducible first | exact HB.out | apply below_alloc | apply pw_below_drewN | apply below_drew1 | refine below_set ?_ GE234.out) | exact HB.out))) : w.heap.size ≤ gb244)); have n6_ := Aside0.mk ((by rw [hg]; exact (below_size (by repeat (first | (with_reducible first | exact HB.out | apply below_alloc | apply pw_below_drewN | apply below_drew1 | refine below_set ?_ GE234.out) | exact HB.out))) : w.heap.size ≤ gb244)); have n7_ := Aside0.mk ((by rw [hg]; exact Nat.ne_of_lt (blk_lt (g := gb234) (o := .cells #[.string t227, .slice Ao78 t228.length co78, .string t231] 32 (0, 0)) (by (with_reducible repeat (first | refine blk_drewN ?_ _ | refine blk_drew ?_ | refine blk_alloc ?_ _)); exact BK234.out)) : gb234 ≠ gb244)); have n8_ := Aside0.mk ((by rw [hg]; exact Nat.ne_of_gt (blk_lt (g := gb234) (o := .cells #[.string t227, .slice Ao78 t228.length co78, .string t231] 32 (0, 0)) (by (with_reducible repeat (first | refine blk_drewN ?_ _ | refine blk_drew ?_ | refine blk_alloc ?_ _)); exact BK234.out)) : gb244 ≠ gb234)); clear HO230; clear HO240; clear BK234; clear HB; have HO230 := n0_; have HO240 := n1_; have BK234 := n2_; have HB := n3_; have BK244 := n4_; have GW244 := n5_; have GE244 := n6_; have NB234_244 := n7_; have NB244_234 := n8_; clear n0_ n1_ n2_ n3_ n4_ n5_ n6_ n7_ n8_; clear hb hbox hg; have hnb82 := NB244_234.out; have hnc82 := NB234_244.out; have hcz83_0 : w81.cell? ⟨gb244, 0, none⟩ = some (.string (⟨#[]⟩ : ByteArray)) := (blk_cell BK244.out 0).trans rfl; have hcz83_1 : w81.cell? ⟨gb244, 1, none⟩ = some (.slice none 0 0) := (blk_cell BK244.out 1).trans rfl; have hcz83_2 : w81.cell? ⟨gb244, 2, none⟩ = some (.string (⟨#[]⟩ : ByteArray)) := (blk_cell BK244.out 2).trans rfl; have hfz83_0 := blk_frozen BK244.out 0; have hfz83_1 := blk_frozen BK244.out 1; have hfz83_2 := blk_frozen BK244.out 2; obtain ⟨Ao84, co84, eo84⟩ := Kd.S_slice HO240.out; subst eo84; have hcz85_0 : w81.cell? ⟨gb234, 0, none⟩ = some (.string t227) := (blk_cell BK234.out 0).trans rfl; have hcz85_1 : w81.cell? ⟨gb234, 1, none⟩ = some (.slice Ao78 t228.length co78) := (blk_cell BK234.out 1).trans rfl; have hcz85_2 : w81.cell? ⟨gb234, 2, none⟩ = some (.string t231) := (blk_cell BK234.out 2).trans rfl; have hfz85_0 := blk_frozen BK234.out 0; have hfz85_1 := blk_frozen BK234.out 1; have hfz85_2 := blk_frozen BK234.out 2) | ((with_reducible refine gate_callee (f := 11) rfl ?_); refine goesL_ (some 39) rfl rfl Tryz.func11 (by kernel_rfl) rfl #[.agg #[.string t227, .slice Ao78 t228.length co78, .string t231]] rfl (by (try simp only [List.map_toArray, List.map_cons, List.map_nil]); first | done | rfl | (simp only [List.length_drop, List.length_take]; rfl)) ?_; (with_reducible refine (line_Formed.calls kj1 t227 _ _ t228 t231 true _ (by first | (with_reducible exact hG) | exact GG.below hG (by repeat (first | (with_reducible first | exact HB.out | apply below_alloc | apply pw_below_drewN | apply below_drew1 | refine below_set ?_ GE234.out | refine below_set ?_ GE244.out) | exact HB.out))) ?side1 ?side2 A14.out).mono ?_); (case side1 => refine (Kd.S_reads' (e := 53) (base := w.heap.size) (ok := fun k_ => (True ∧ some k_ ≠ (.slice Ao84 t238.length co84 : Value).ownBlock)) (n := t228.length) (c := co78) ?_).2.2; exact (by (with_reducible repeat (first | apply Kd.S_alloc | apply Kd.S_drewN | apply Kd.S_drew)); exact (Kd.S_mono (Kd.S_far (p := ⟨gb244, 2, none⟩) (Kd.S_far (p := ⟨gb244, 1, none⟩) (Kd.S_far (p := ⟨gb244, 0, none⟩) (Kd.S_types HO230.out BK244.out (by decide)) (fun _ hk => hk.2) (.string t237)) (fun _ hk => hk.2) (.slice Ao84 t238.length co84)) (fun _ hk => hk.2) (.string t241)) (fun _ h_ => h_.1)))); (case side2 => exact (Kd.S_reads' HO230.out).2.1); rintro e w86 ⟨rfl, hb⟩; refine ⟨_, rfl, ?_⟩; have n0_ := Aside0.mk (Kd.S_below (by (with_reducible repeat (first | apply Kd.S_alloc | apply Kd.S_drewN | apply Kd.S_drew)); exact (Kd.S_mono (Kd.S_far (p := ⟨gb244, 2, none⟩) (Kd.S_far (p := ⟨gb244, 1, none⟩) (Kd.S_far (p := ⟨gb244, 0, none⟩) (Kd.S_types HO230.out BK244.out (by decide)) (fun _ hk => hk.2) (.string t237)) (fun _ hk => hk.2) (.slice Ao84 t238.length co84)) (fun _ hk => hk.2) (.string t241)) (fun _ h_ => h_.1))) hb); have n1_ := Aside0.mk (Kd.S_below (by (with_reducible repeat (first | apply Kd.S_alloc | apply Kd.S_drewN | apply Kd.S_drew)); exact (Kd.S_mono (Kd.S_far (p := ⟨gb244, 2, none⟩) (Kd.S_far (p := ⟨gb244, 1, none⟩) (Kd.S_far (p := ⟨gb244, 0, none⟩) (Kd.S_types HO240.out BK244.out (by decide)) (fun _ hk => hk.2) (.string t237)) (fun _ hk => hk.2) (.slice Ao84 t238.length co84)) (fun _ hk => hk.2) (.string t241)) (fun _ h_ => h_.1))) hb); have n2_ := Aside0.mk (blk_below (g := gb234) (o := .cells #[.string t227, .slice Ao78 t228.length co78, .string t231] 32 (0, 0)) (by (with_reducible repeat (first | refine blk_drewN ?_ _ | refine blk_drew ?_ | refine blk_alloc ?_ _)); refine blk_far ?_ NB234_244.out _; (with_reducible repeat (first | refine blk_drewN ?_ _ | refine blk_drew ?_ | refine blk_alloc ?_ _)); refine blk_far ?_ NB234_244.out _; (with_reducible repeat (first | refine blk_drewN ?_ _ | refine blk_drew ?_ | refine blk_alloc ?_ _)); refine blk_far ?_ NB234_244.out _; (with_reducible repeat (first | refine blk_drewN ?_ _ | refine blk_drew ?_ | refine blk_alloc ?_ _)); exact BK234.out) hb); have n3_ := Aside0.mk (blk_below (g := gb244) (o := .cells #[.string t237, .slice Ao84 t238.length co84, .string t241] 32 (0, 0)) (by (with_reducible repeat (first | refine blk_drewN ?_ _ | refine blk_drew ?_ | refine blk_alloc ?_ _)); refine blk_put (cs := #[.string t237, .slice Ao84 t238.length co84, .string (⟨#[]⟩ : ByteArray)]) ?_ 2 _ rfl; (with_reducible repeat (first | refine blk_drewN ?_ _ | refine blk_drew ?_ | refine blk_alloc ?_ _)); refine blk_put (cs := #[.string t237, .slice none 0 0, .string (⟨#[]⟩ : ByteArray)]) ?_ 1 _ rfl; (with_reducible repeat (first | refine blk_drewN ?_ _ | refine blk_drew ?_ | refine blk_alloc ?_ _)); refine blk_put (cs := #[.string (⟨#[]⟩ : ByteArray), .slice none 0 0, .string (⟨#[]⟩ : ByteArray)]) ?_ 0 _ rfl; (with_reducible repeat (first | refine blk_drewN ?_ _ | refine blk_drew ?_ | refine blk_alloc ?_ _)); exact BK244.out) hb); have n4_ := Aside0.mk (below_step (by repeat (first | (with_reducible first | exact HB.out | apply below_alloc | apply pw_below_drewN | apply below_drew1 | refine below_set ?_ GE234.out | refine below_set ?_ GE244.out) | exact HB.out)) hb); clear HO230; clear HO240; clear BK234; clear BK244; clear HB; have HO230 := n0_; have HO240 := n1_; have BK234 := n2_; have BK244 := n3_; have HB := n4_; clear n0_ n1_ n2_ n3_ n4_; (try clear hb); (try clear hb2); (try clear hk); (try clear hi); have hcz87_0 : w86.cell? ⟨gb234, 0, none⟩ = some (.string t227) := (blk_cell BK234.out 0).trans rfl; have hcz87_1 : w86.cell? ⟨gb234, 1, none⟩ = some (.slice Ao78 t228.length co78) := (blk_cell BK234.out 1).trans rfl; have hcz87_2 : w86.cell? ⟨gb234, 2, none⟩ = some (.string t231) := (blk_cell BK234.out 2).trans rfl; have hfz87_0 := blk_frozen BK234.out 0; have hfz87_1 := blk_frozen BK234.out 1; have hfz87_2 := blk_frozen BK234.out 2; have hcz88_0 : w86.cell? ⟨gb244, 0, none⟩ = some (.string t237) := (blk_cell BK244.out 0).trans rfl; have hcz88_1 : w86.cell? ⟨gb244, 1, none⟩ = some (.slice Ao84 t238.length co84) := (blk_cell BK244.out 1).trans rfl; have hcz88_2 : w86.cell? ⟨gb244, 2, none⟩ = some (.string t241) := (blk_cell BK244.out 2).trans rfl; have hfz88_0 := blk_frozen BK244.out 0; have hfz88_1 := blk_frozen BK244.out 1; have hfz88_2 := blk_frozen BK244.out 2) | (go_at_call 18; (with_reducible refine (line_Equal.calls t227 _ _ t228 t231 t237 _ _ t238 t241 t247 _ (by first | (with_reducible exact hG) | exact GG.below hG (by repeat (first | (with_reducible first | exact HB.out | apply below_alloc | apply pw_below_drewN | apply below_drew1 | refine below_set ?_ GE234.out | refine below_set ?_ GE244.out) | exact HB.out))) ?side1 ?side2 ?side3 ?side4 A74.out).mono ?_); (case side1 => repeat (first | exact (Kd.S_reads' HO230.out).2.2 | (with_reducible refine Kd.C_alloc ?_ _) | (with_reducible refine Kd.C_drewN ?_ _) | (with_reducible refine Kd.C_drew ?_))); (case side2 => exact (Kd.S_reads' HO230.out).2.1); (case side3 => repeat (first | exact (Kd.S_reads' HO240.out).2.2 | (with_reducible refine Kd.C_alloc ?_ _) | (with_reducible refine Kd.C_drewN ?_ _) | (with_reducible refine Kd.C_drew ?_))); (case side4 => exact (Kd.S_reads' HO240.out).2.1); rintro e w89 ⟨rfl, hb⟩; have n0_ := Aside0.mk (Kd.S_below (by (with_reducible repeat (first | apply Kd.S_alloc | apply Kd.S_drewN | apply Kd.S_drew)); exact HO230.out) hb); have n1_ := Aside0.mk (Kd.S_below (by (with_reducible repeat (first | apply Kd.S_alloc | apply Kd.S_drewN | apply Kd.S_drew)); exact HO240.out) hb); have n2_ := Aside0.mk (blk_below (g := gb234) (o := .cells #[.string t227, .slice Ao78 t228.length co78, .string t231] 32 (0, 0)) (by (with_reducible repeat (first | refine blk_drewN ?_ _ | refine blk_drew ?_ | refine blk_alloc ?_ _)); exact BK234.out) hb); have n3_ := Aside0.mk (blk_below (g := gb244) (o := .cells #[.string t237, .slice Ao84 t238.length co84, .string t241] 32 (0, 0)) (by (with_reducible repeat (first | refine blk_drewN ?_ _ | refine blk_drew ?_ | refine blk_alloc ?_ _)); exact BK244.out) hb); have n4_ := Aside0.mk (below_step (by repeat (first | (with_reducible first | exact HB.out | apply below_alloc | apply pw_below_drewN | apply below_drew1 | refine below_set ?_ GE234.out | refine below_set ?_ GE244.out) | exact HB.out)) hb); clear HO230; clear HO240; clear BK234; clear BK244; clear HB; have HO230 := n0_; have HO240 := n1_; have BK234 := n2_; have BK244 := n3_; have HB := n4_; clear n0_ n1_ n2_ n3_ n4_; (try clear hb); (try clear hb2); (try clear hk); (try clear hi)))
                  go_ret
                  exact ⟨by first | rfl | (simp [errW_none, errW_some] <;> rfl) | (simp [*, errW_none, errW_some] <;> rfl), by repeat (first | (with_reducible first | exact HB.out | apply below_alloc | apply pw_below_drewN | apply below_drew1 | refine below_set ?_ GE234.out | refine below_set ?_ GE244.out) | exact HB.out)⟩
                · rw [if_neg c73] at H
                  have c73b0 : (t243 == 0) = false := beq_eq_false_iff_ne.mpr c73
                  have c73b1 : (t243 != 0) = true := bne_iff_ne.mpr c73
                  obtain rfl := Option.some.inj H
                  go_wp2_with (first | ((with_reducible refine gate_callee (f := 15) rfl ?_); refine goesL_ (some 21) rfl rfl Tryz.func15 (by kernel_rfl) rfl #[.string a0] rfl (by (try simp only [List.map_toArray, List.map_cons, List.map_nil]); first | done | rfl | (simp only [List.length_drop, List.length_take]; rfl)) ?_; (with_reducible refine (line_Parse.calls kj1 a0 t227 t228 t231 t232 t233 _ (by first | (with_reducible exact hG) | exact GG.below hG (by repeat (first | (with_reducible first | exact HB.out | apply below_alloc | apply pw_below_drewN | apply below_drew1) | exact HB.out))) A10.out).mono ?_); rintro e w90 ⟨v229, rfl, ho0, hb⟩; refine ⟨_, rfl, ?_⟩; have n0_ := Aside0.mk (Kd.S_lower ho0 (below_size (by repeat (first | (with_reducible first | exact HB.out | apply below_alloc | apply pw_below_drewN | apply below_drew1) | exact HB.out)))); have n1_ := Aside0.mk (below_step (by repeat (first | (with_reducible first | exact HB.out | apply below_alloc | apply pw_below_drewN | apply below_drew1) | exact HB.out)) hb); clear HB; have HO230 := n0_; have HB := n1_; clear n0_ n1_; (try clear hb); (try clear hb2); (try clear hk); (try clear hi); (try clear ho0)) | ((with_reducible refine gate_dst (N := 3) rfl ?_); (try (refine gate_guard (by rfl) ?_; dsimp only)); refine box_event ?hg (N := 3) ?hd (cs := #[.string (⟨#[]⟩ : ByteArray), .slice none 0 0, .string (⟨#[]⟩ : ByteArray)]) (t := 32) ?hr ?_; (case hd => rfl); (case hg => rfl); (case hr => first | (go_simp; done) | (go_simp; rfl)); intro gb234 hg w91 hbox hb; have n0_ := Aside0.mk (Kd.S_below (by (with_reducible repeat (first | apply Kd.S_alloc | apply Kd.S_drewN | apply Kd.S_drew)); exact HO230.out) hb); have n1_ := Aside0.mk (below_step (by repeat (first | (with_reducible first | exact HB.out | apply below_alloc | apply pw_below_drewN | apply below_drew1) | exact HB.out)) hb); have n2_ := Aside0.mk (hbox); have n3_ := Aside0.mk ((by rw [hg]; exact (below_size (by repeat (first | (with_reducible first | exact HB.out | apply below_alloc | apply pw_below_drewN | apply below_drew1) | exact HB.out))) : w.heap.size ≤ gb234)); have n4_ := Aside0.mk ((by rw [hg]; exact (below_size (by repeat (first | (with_reducible first | exact HB.out | apply below_alloc | apply pw_below_drewN | apply below_drew1) | exact HB.out))) : w.heap.size ≤ gb234)); clear HO230; clear HB; have HO230 := n0_; have HB := n1_; have BK234 := n2_; have GW234 := n3_; have GE234 := n4_; clear n0_ n1_ n2_ n3_ n4_; clear hb hbox hg; have hcz92_0 : w91.cell? ⟨gb234, 0, none⟩ = some (.string (⟨#[]⟩ : ByteArray)) := (blk_cell BK234.out 0).trans rfl; have hcz92_1 : w91.cell? ⟨gb234, 1, none⟩ = some (.slice none 0 0) := (blk_cell BK234.out 1).trans rfl; have hcz92_2 : w91.cell? ⟨gb234, 2, none⟩ = some (.string (⟨#[]⟩ : ByteArray)) := (blk_cell BK234.out 2).trans rfl; have hfz92_0 := blk_frozen BK234.out 0; have hfz92_1 := blk_frozen BK234.out 1; have hfz92_2 := blk_frozen BK234.out 2; obtain ⟨Ao93, co93, eo93⟩ := Kd.S_slice HO230.out; subst eo93) | ((with_reducible refine gate_callee (f := 8) rfl ?_); refine goesL_ (some 29) rfl rfl Tryz.func8 (by kernel_rfl) rfl #[.agg #[.string t227, .slice Ao93 t228.length co93, .string t231]] rfl (by (try simp only [List.map_toArray, List.map_cons, List.map_nil]); first | done | rfl | (simp only [List.length_drop, List.length_take]; rfl)) ?_; (with_reducible refine (line_Print.calls kj1 t227 _ _ t228 t231 t235 t236 _ (by first | (with_reducible exact hG) | exact GG.below hG (by repeat (first | (with_reducible first | exact HB.out | apply below_alloc | apply pw_below_drewN | apply below_drew1 | refine below_set ?_ GE234.out) | exact HB.out))) ?side1 ?side2 A12.out).mono ?_); (case side1 => refine (Kd.S_reads' (e := 53) (base := w.heap.size) (ok := fun k_ => True) (n := t228.length) (c := co93) ?_).2.2; exact (by (with_reducible repeat (first | apply Kd.S_alloc | apply Kd.S_drewN | apply Kd.S_drew)); exact (Kd.S_mono (Kd.S_far (p := ⟨gb234, 2, none⟩) (Kd.S_far (p := ⟨gb234, 1, none⟩) (Kd.S_far (p := ⟨gb234, 0, none⟩) (Kd.S_types HO230.out BK234.out (by decide)) (fun _ hk => hk.2) (.string t227)) (fun _ hk => hk.2) (.slice Ao93 t228.length co93)) (fun _ hk => hk.2) (.string t231)) (fun _ h_ => h_.1)))); (case side2 => exact (Kd.S_reads' HO230.out).2.1); rintro e w94 ⟨rfl, hb⟩; refine ⟨_, rfl, ?_⟩; have n0_ := Aside0.mk (Kd.S_below (by (with_reducible repeat (first | apply Kd.S_alloc | apply Kd.S_drewN | apply Kd.S_drew)); exact (Kd.S_mono (Kd.S_far (p := ⟨gb234, 2, none⟩) (Kd.S_far (p := ⟨gb234, 1, none⟩) (Kd.S_far (p := ⟨gb234, 0, none⟩) (Kd.S_types HO230.out BK234.out (by decide)) (fun _ hk => hk.2) (.string t227)) (fun _ hk => hk.2) (.slice Ao93 t228.length co93)) (fun _ hk => hk.2) (.string t231)) (fun _ h_ => h_.1))) hb); have n1_ := Aside0.mk (blk_below (g := gb234) (o := .cells #[.string t227, .slice Ao93 t228.length co93, .string t231] 32 (0, 0)) (by (with_reducible repeat (first | refine blk_drewN ?_ _ | refine blk_drew ?_ | refine blk_alloc ?_ _)); refine blk_put (cs := #[.string t227, .slice Ao93 t228.length co93, .string (⟨#[]⟩ : ByteArray)]) ?_ 2 _ rfl; (with_reducible repeat (first | refine blk_drewN ?_ _ | refine blk_drew ?_ | refine blk_alloc ?_ _)); refine blk_put (cs := #[.string t227, .slice none 0 0, .string (⟨#[]⟩ : ByteArray)]) ?_ 1 _ rfl; (with_reducible repeat (first | refine blk_drewN ?_ _ | refine blk_drew ?_ | refine blk_alloc ?_ _)); refine blk_put (cs := #[.string (⟨#[]⟩ : ByteArray), .slice none 0 0, .string (⟨#[]⟩ : ByteArray)]) ?_ 0 _ rfl; (with_reducible repeat (first | refine blk_drewN ?_ _ | refine blk_drew ?_ | refine blk_alloc ?_ _)); exact BK234.out) hb); have n2_ := Aside0.mk (below_step (by repeat (first | (with_reducible first | exact HB.out | apply below_alloc | apply pw_below_drewN | apply below_drew1 | refine below_set ?_ GE234.out) | exact HB.out)) hb); clear HO230; clear BK234; clear HB; have HO230 := n0_; have BK234 := n1_; have HB := n2_; clear n0_ n1_ n2_; (try clear hb); (try clear hb2); (try clear hk); (try clear hi)) | ((with_reducible refine gate_callee (f := 15) rfl ?_); refine goesL_ (some 34) rfl rfl Tryz.func15 (by kernel_rfl) rfl #[.string t235] rfl (by (try simp only [List.map_toArray, List.map_cons, List.map_nil]); first | done | rfl | (simp only [List.length_drop, List.length_take]; rfl)) ?_; (with_reducible refine (line_Parse.calls kj1 t235 t237 t238 t241 t242 t243 _ (by first | (with_reducible exact hG) | exact GG.below hG (by repeat (first | (with_reducible first | exact HB.out | apply below_alloc | apply pw_below_drewN | apply below_drew1 | refine below_set ?_ GE234.out) | exact HB.out))) A13.out).mono ?_); rintro e w95 ⟨v239, rfl, ho0, hb⟩; refine ⟨_, rfl, ?_⟩; have n0_ := Aside0.mk (Kd.S_elder' (by (with_reducible repeat (first | apply Kd.S_alloc | apply Kd.S_drewN | apply Kd.S_drew)); exact HO230.out) (Kd.S_base ho0) hb); have n1_ := Aside0.mk (Kd.S_lower (Kd.S_new' ho0 (Kd.S_lt (by (with_reducible repeat (first | apply Kd.S_alloc | apply Kd.S_drewN | apply Kd.S_drew)); exact HO230.out))) (below_size (by repeat (first | (with_reducible first | exact HB.out | apply below_alloc | apply pw_below_drewN | apply below_drew1 | refine below_set ?_ GE234.out) | exact HB.out)))); have n2_ := Aside0.mk (blk_below (g := gb234) (o := .cells #[.string t227, .slice Ao93 t228.length co93, .string t231] 32 (0, 0)) (by (with_reducible repeat (first | refine blk_drewN ?_ _ | refine blk_drew ?_ | refine blk_alloc ?_ _)); exact BK234.out) hb); have n3_ := Aside0.mk (below_step (by repeat (first | (with_reducible first | exact HB.out | apply below_alloc | apply pw_below_drewN | apply below_drew1 | refine below_set ?_ GE234.out) | exact HB.out)) hb); clear HO230; clear BK234; clear HB; have HO230 := n0_; have HO240 := n1_; have BK234 := n2_; have HB := n3_; clear n0_ n1_ n2_ n3_; (try clear hb); (try clear hb2); (try clear hk); (try clear hi); (try clear ho0)) | ((with_reducible refine gate_dst (N := 8) rfl ?_); (try (refine gate_guard (by rfl) ?_; dsimp only)); refine box_event ?hg (N := 8) ?hd (cs := #[.string (⟨#[]⟩ : ByteArray), .slice none 0 0, .string (⟨#[]⟩ : ByteArray)]) (t := 32) ?hr ?_; (case hd => rfl); (case hg => rfl); (case hr => first | (go_simp; done) | (go_simp; rfl)); intro gb244 hg w96 hbox hb; have n0_ := Aside0.mk (Kd.S_below (by (with_reducible repeat (first | apply Kd.S_alloc | apply Kd.S_drewN | apply Kd.S_drew)); exact HO230.out) hb); have n1_ := Aside0.mk (Kd.S_below (by (with_reducible repeat (first | apply Kd.S_alloc | apply Kd.S_drewN | apply Kd.S_drew)); exact HO240.out) hb); have n2_ := Aside0.mk (blk_below (g := gb234) (o := .cells #[.string t227, .slice Ao93 t228.length co93, .string t231] 32 (0, 0)) (by (with_reducible repeat (first | refine blk_drewN ?_ _ | refine blk_drew ?_ | refine blk_alloc ?_ _)); exact BK234.out) hb); have n3_ := Aside0.mk (below_step (by repeat (first | (with_reducible first | exact HB.out | apply below_alloc | apply pw_below_drewN | apply below_drew1 | refine below_set ?_ GE234.out) | exact HB.out)) hb); have n4_ := Aside0.mk (hbox); have n5_ := Aside0.mk ((by rw [hg]; exact (below_size (by repeat (first | (with_reducible first | exact HB.out | apply below_alloc | apply pw_below_drewN | apply below_drew1 | refine below_set ?_ GE234.out) | exact HB.out))) : w.heap.size ≤ gb244)); have n6_ := Aside0.mk ((by rw [hg]; exact (below_size (by repeat (first | (with_reducible first | exact HB.out | apply below_alloc | apply pw_below_drewN | apply below_drew1 | refine below_set ?_ GE234.out) | exact HB.out))) : w.heap.size ≤ gb244)); have n7_ := Aside0.mk ((by rw [hg]; exact Nat.ne_of_lt (blk_lt (g := gb234) (o := .cells #[.string t227, .slice Ao93 t228.length co93, .string t231] 32 (0, 0)) (by (with_reducible repeat (first | refine blk_drewN ?_ _ | refine blk_drew ?_ | refine blk_alloc ?_ _)); exact BK234.out)) : gb234 ≠ gb244)); have n8_ := Aside0.mk ((by rw [hg]; exact Nat.ne_of_gt (blk_lt (g := gb234) (o := .cells #[.string t227, .slice Ao93 t228.length co93, .string t231] 32 (0, 0)) (by (with_reducible repeat (first | refine blk_drewN ?_ _ | refine blk_drew ?_ | refine blk_alloc ?_ _)); exact BK234.out)) : gb244 ≠ gb234)); clear HO230; clear HO240; clear BK234; clear HB; have HO230 := n0_; have HO240 := n1_; have BK234 := n2_; have HB := n3_; have BK244 := n4_; have GW244 := n5_; have GE244 := n6_; have NB234_244 := n7_; have NB244_234 := n8_; clear n0_ n1_ n2_ n3_ n4_ n5_ n6_ n7_ n8_; clear hb hbox hg; have hnb97 := NB244_234.out; have hnc97 := NB234_244.out; have hcz98_0 : w96.cell? ⟨gb244, 0, none⟩ = some (.string (⟨#[]⟩ : ByteArray)) := (blk_cell BK244.out 0).trans rfl; have hcz98_1 : w96.cell? ⟨gb244, 1, none⟩ = some (.slice none 0 0) := (blk_cell BK244.out 1).trans rfl; have hcz98_2 : w96.cell? ⟨gb244, 2, none⟩ = some (.string (⟨#[]⟩ : ByteArray)) := (blk_cell BK244.out 2).trans rfl; have hfz98_0 := blk_frozen BK244.out 0; have hfz98_1 := blk_frozen BK244.out 1; have hfz98_2 := blk_frozen BK244.out 2; obtain ⟨Ao99, co99, eo99⟩ := Kd.S_slice HO240.out; subst eo99; have hcz100_0 : w96.cell? ⟨gb234, 0, none⟩ = some (.string t227) := (blk_cell BK234.out 0).trans rfl; have hcz100_1 : w96.cell? ⟨gb234, 1, none⟩ = some (.slice Ao93 t228.length co93) := (blk_cell BK234.out 1).trans rfl; have hcz100_2 : w96.cell? ⟨gb234, 2, none⟩ = some (.string t231) := (blk_cell BK234.out 2).trans rfl; have hfz100_0 := blk_frozen BK234.out 0; have hfz100_1 := blk_frozen BK234.out 1; have hfz100_2 := blk_frozen BK234.out 2) | ((with_reducible refine gate_callee (f := 11) rfl ?_); refine goesL_ (some 39) rfl rfl Tryz.func11 (by kernel_rfl) rfl #[.agg #[.string t227, .slice Ao93 t228.length co93, .string t231]] rfl (by (try simp only [List.map_toArray, List.map_cons, List.map_nil]); first | done | rfl | (simp only [List.length_drop, List.length_take]; rfl)) ?_; (with_reducible refine (line_Formed.calls kj1 t227 _ _ t228 t231 true _ (by first | (with_reducible exact hG) | exact GG.below hG (by repeat (first | (with_reducible first | exact HB.out | apply below_alloc | apply pw_below_drewN | apply below_drew1 | refine below_set ?_ GE234.out | refine below_set ?_ GE244.out) | exact HB.out))) ?side1 ?side2 A14.out).mono ?_); (case side1 => refine (Kd.S_reads' (e := 53) (base := w.heap.size) (ok := fun k_ => (True ∧ some k_ ≠ (.slice Ao99 t238.length co99 : Value).ownBlock)) (n := t228.length) (c := co93) ?_).2.2; exact (by (with_reducible repeat (first | apply Kd.S_alloc | apply Kd.S_drewN | apply Kd.S_drew)); exact (Kd.S_mono (Kd.S_far (p := ⟨gb244, 2, none⟩) (Kd.S_far (p := ⟨gb244, 1, none⟩) (Kd.S_far (p := ⟨gb244, 0, none⟩) (Kd.S_types HO230.out BK244.out (by decide)) (fun _ hk => hk.2) (.string t237)) (fun _ hk => hk.2) (.slice Ao99 t238.length co99)) (fun _ hk => hk.2) (.string t241)) (fun _ h_ => h_.1)))); (case side2 => exact (Kd.S_reads' HO230.out).2.1); rintro e w101 ⟨rfl, hb⟩; refine ⟨_, rfl, ?_⟩; have n0_ := Aside0.mk (Kd.S_below (by (with_reducible repeat (first | apply Kd.S_alloc | apply Kd.S_drewN | apply Kd.S_drew)); exact (Kd.S_mono (Kd.S_far (p := ⟨gb244, 2, none⟩) (Kd.S_far (p := ⟨gb244, 1, none⟩) (Kd.S_far (p := ⟨gb244, 0, none⟩) (Kd.S_types HO230.out BK244.out (by decide)) (fun _ hk => hk.2) (.string t237)) (fun _ hk => hk.2) (.slice Ao99 t238.length co99)) (fun _ hk => hk.2) (.string t241)) (fun _ h_ => h_.1))) hb); have n1_ := Aside0.mk (Kd.S_below (by (with_reducible repeat (first | apply Kd.S_alloc | apply Kd.S_drewN | apply Kd.S_drew)); exact (Kd.S_mono (Kd.S_far (p := ⟨gb244, 2, none⟩) (Kd.S_far (p := ⟨gb244, 1, none⟩) (Kd.S_far (p := ⟨gb244, 0, none⟩) (Kd.S_types HO240.out BK244.out (by decide)) (fun _ hk => hk.2) (.string t237)) (fun _ hk => hk.2) (.slice Ao99 t238.length co99)) (fun _ hk => hk.2) (.string t241)) (fun _ h_ => h_.1))) hb); have n2_ := Aside0.mk (blk_below (g := gb234) (o := .cells #[.string t227, .slice Ao93 t228.length co93, .string t231] 32 (0, 0)) (by (with_reducible repeat (first | refine blk_drewN ?_ _ | refine blk_drew ?_ | refine blk_alloc ?_ _)); refine blk_far ?_ NB234_244.out _; (with_reducible repeat (first | refine blk_drewN ?_ _ | refine blk_drew ?_ | refine blk_alloc ?_ _)); refine blk_far ?_ NB234_244.out _; (with_reducible repeat (first | refine blk_drewN ?_ _ | refine blk_drew ?_ | refine blk_alloc ?_ _)); refine blk_far ?_ NB234_244.out _; (with_reducible repeat (first | refine blk_drewN ?_ _ | refine blk_drew ?_ | refine blk_alloc ?_ _)); exact BK234.out) hb); have n3_ := Aside0.mk (blk_below (g := gb244) (o := .cells #[.string t237, .slice Ao99 t238.length co99, .string t241] 32 (0, 0)) (by (with_reducible repeat (first | refine blk_drewN ?_ _ | refine blk_drew ?_ | refine blk_alloc ?_ _)); refine blk_put (cs := #[.string t237, .slice Ao99 t238.length co99, .string (⟨#[]⟩ : ByteArray)]) ?_ 2 _ rfl; (with_reducible repeat (first | refine blk_drewN ?_ _ | refine blk_drew ?_ | refine blk_alloc ?_ _)); refine blk_put (cs := #[.string t237, .slice none 0 0, .string (⟨#[]⟩ : ByteArray)]) ?_ 1 _ rfl; (with_reducible repeat (first | refine blk_drewN ?_ _ | refine blk_drew ?_ | refine blk_alloc ?_ _)); refine blk_put (cs := #[.string (⟨#[]⟩ : ByteArray), .slice none 0 0, .string (⟨#[]⟩ : ByteArray)]) ?_ 0 _ rfl; (with_reducible repeat (first | refine blk_drewN ?_ _ | refine blk_drew ?_ | refine blk_alloc ?_ _)); exact BK244.out) hb); have n4_ := Aside0.mk (below_step (by repeat (first | (with_reducible first | exact HB.out | apply below_alloc | apply pw_below_drewN | apply below_drew1 | refine below_set ?_ GE234.out | refine below_set ?_ GE244.out) | exact HB.out)) hb); clear HO230; clear HO240; clear BK234; clear BK244; clear HB; have HO230 := n0_; have HO240 := n1_; have BK234 := n2_; have BK244 := n3_; have HB := n4_; clear n0_ n1_ n2_ n3_ n4_; (try clear hb); (try clear hb2); (try clear hk); (try clear hi)))
                  go_ret
                  exact ⟨by first | rfl | (simp [errW_none, errW_some] <;> rfl) | (simp [*, errW_none, errW_some] <;> rfl), by repeat (first | (with_reducible first | exact HB.out | apply below_alloc | apply pw_below_drewN | apply below_drew1 | refine below_set ?_ GE234.out | refine below_set ?_ GE244.out) | exact HB.out)⟩
              · rw [if_neg c72] at H
                have c72b0 : (t236 == 0) = false := beq_eq_false_iff_ne.mpr c72
                have c72b1 : (t236 != 0) = true := bne_iff_ne.mpr c72
                obtain rfl := Option.some.inj H
                go_wp2_with (first | ((with_reducible refine gate_callee (f := 15) rfl ?_); refine goesL_ (some 21) rfl rfl Tryz.func15 (by kernel_rfl) rfl #[.string a0] rfl (by (try simp only [List.map_toArray, List.map_cons, List.map_nil]); first | done | rfl | (simp only [List.length_drop, List.length_take]; rfl)) ?_; (with_reducible refine (line_Parse.calls kj1 a0 t227 t228 t231 t232 t233 _ (by first | (with_reducible exact hG) | exact GG.below hG (by repeat (first | (with_reducible first | exact HB.out | apply below_alloc | apply pw_below_drewN | apply below_drew1) | exact HB.out))) A10.out).mono ?_); rintro e w102 ⟨v229, rfl, ho0, hb⟩; refine ⟨_, rfl, ?_⟩; have n0_ := Aside0.mk (Kd.S_lower ho0 (below_size (by repeat (first | (with_reducible first | exact HB.out | apply below_alloc | apply pw_below_drewN | apply below_drew1) | exact HB.out)))); have n1_ := Aside0.mk (below_step (by repeat (first | (with_reducible first | exact HB.out | apply below_alloc | apply pw_below_drewN | apply below_drew1) | exact HB.out)) hb); clear HB; have HO230 := n0_; have HB := n1_; clear n0_ n1_; (try clear hb); (try clear hb2); (try clear hk); (try clear hi); (try clear ho0)) | ((with_reducible refine gate_dst (N := 3) rfl ?_); (try (refine gate_guard (by rfl) ?_; dsimp only)); refine box_event ?hg (N := 3) ?hd (cs := #[.string (⟨#[]⟩ : ByteArray), .slice none 0 0, .string (⟨#[]⟩ : ByteArray)]) (t := 32) ?hr ?_; (case hd => rfl); (case hg => rfl); (case hr => first | (go_simp; done) | (go_simp; rfl)); intro gb234 hg w103 hbox hb; have n0_ := Aside0.mk (Kd.S_below (by (with_reducible repeat (first | apply Kd.S_alloc | apply Kd.S_drewN | apply Kd.S_drew)); exact HO230.out) hb); have n1_ := Aside0.mk (below_step (by repeat (first | (with_reducible first | exact HB.out | apply below_alloc | apply pw_below_drewN | apply below_drew1) | exact HB.out)) hb); have n2_ := Aside0.mk (hbox); have n3_ := Aside0.mk ((by rw [hg]; exact (below_size (by repeat (first | (with_reducible first | exact HB.out | apply below_alloc | apply pw_below_drewN | apply below_drew1) | exact HB.out))) : w.heap.size ≤ gb234)); have n4_ := Aside0.mk ((by rw [hg]; exact (below_size (by repeat (first | (with_reducible first | exact HB.out | apply below_alloc | apply pw_below_drewN | apply below_drew1) | exact HB.out))) : w.heap.size ≤ gb234)); clear HO230; clear HB; have HO230 := n0_; have HB := n1_; have BK234 := n2_; have GW234 := n3_; have GE234 := n4_; clear n0_ n1_ n2_ n3_ n4_; clear hb hbox hg; have hcz104_0 : w103.cell? ⟨gb234, 0, none⟩ = some (.string (⟨#[]⟩ : ByteArray)) := (blk_cell BK234.out 0).trans rfl; have hcz104_1 : w103.cell? ⟨gb234, 1, none⟩ = some (.slice none 0 0) := (blk_cell BK234.out 1).trans rfl; have hcz104_2 : w103.cell? ⟨gb234, 2, none⟩ = some (.string (⟨#[]⟩ : ByteArray)) := (blk_cell BK234.out 2).trans rfl; have hfz104_0 := blk_frozen BK234.out 0; have hfz104_1 := blk_frozen BK234.out 1; have hfz104_2 := blk_frozen BK234.out 2; obtain ⟨Ao105, co105, eo105⟩ := Kd.S_slice HO230.out; subst eo105) | ((with_reducible refine gate_callee (f := 8) rfl ?_); refine goesL_ (some 29) rfl rfl Tryz.func8 (by kernel_rfl) rfl #[.agg #[.string t227, .slice Ao105 t228.length co105, .string t231]] rfl (by (try simp only [List.map_toArray, List.map_cons, List.map_nil]); first | done | rfl | (simp only [List.length_drop, List.length_take]; rfl)) ?_; (with_reducible refine (line_Print.calls kj1 t227 _ _ t228 t231 t235 t236 _ (by first | (with_reducible exact hG) | exact GG.below hG (by repeat (first | (with_reducible first | exact HB.out | apply below_alloc | apply pw_below_drewN | apply below_drew1 | refine below_set ?_ GE234.out) | exact HB.out))) ?side1 ?side2 A12.out).mono ?_); (case side1 => refine (Kd.S_reads' (e := 53) (base := w.heap.size) (ok := fun k_ => True) (n := t228.length) (c := co105) ?_).2.2; exact (by (with_reducible repeat (first | apply Kd.S_alloc | apply Kd.S_drewN | apply Kd.S_drew)); exact (Kd.S_mono (Kd.S_far (p := ⟨gb234, 2, none⟩) (Kd.S_far (p := ⟨gb234, 1, none⟩) (Kd.S_far (p := ⟨gb234, 0, none⟩) (Kd.S_types HO230.out BK234.out (by decide)) (fun _ hk => hk.2) (.string t227)) (fun _ hk => hk.2) (.slice Ao105 t228.length co105)) (fun _ hk => hk.2) (.string t231)) (fun _ h_ => h_.1)))); (case side2 => exact (Kd.S_reads' HO230.out).2.1); rintro e w106 ⟨rfl, hb⟩; refine ⟨_, rfl, ?_⟩; have n0_ := Aside0.mk (Kd.S_below (by (with_reducible repeat (first | apply Kd.S_alloc | apply Kd.S_drewN | apply Kd.S_drew)); exact (Kd.S_mono (Kd.S_far (p := ⟨gb234, 2, none⟩) (Kd.S_far (p := ⟨gb234, 1, none⟩) (Kd.S_far (p := ⟨gb234, 0, none⟩) (Kd.S_types HO230.out BK234.out (by decide)) (fun _ hk => hk.2) (.string t227)) (fun _ hk => hk.2) (.slice Ao105 t228.length co105)) (fun _ hk => hk.2) (.string t231)) (fun _ h_ => h_.1))) hb); have n1_ := Aside0.mk (blk_below (g := gb234) (o := .cells #[.string t227, .slice Ao105 t228.length co105, .string t231] 32 (0, 0)) (by (with_reducible repeat (first | refine blk_drewN ?_ _ | refine blk_drew ?_ | refine blk_alloc ?_ _)); refine blk_put (cs := #[.string t227, .slice Ao105 t228.length co105, .string (⟨#[]⟩ : ByteArray)]) ?_ 2 _ rfl; (with_reducible repeat (first | refine blk_drewN ?_ _ | refine blk_drew ?_ | refine blk_alloc ?_ _)); refine blk_put (cs := #[.string t227, .slice none 0 0, .string (⟨#[]⟩ : ByteArray)]) ?_ 1 _ rfl; (with_reducible repeat (first | refine blk_drewN ?_ _ | refine blk_drew ?_ | refine blk_alloc ?_ _)); refine blk_put (cs := #[.string (⟨#[]⟩ : ByteArray), .slice none 0 0, .string (⟨#[]⟩ : ByteArray)]) ?_ 0 _ rfl; (with_reducible repeat (first | refine blk_drewN ?_ _ | refine blk_drew ?_ | refine blk_alloc ?_ _)); exact BK234.out) hb); have n2_ := Aside0.mk (below_step (by repeat (first | (with_reducible first | exact HB.out | apply below_alloc | apply pw_below_drewN | apply below_drew1 | refine below_set ?_ GE234.out) | exact HB.out)) hb); clear HO230; clear BK234; clear HB; have HO230 := n0_; have BK234 := n1_; have HB := n2_; clear n0_ n1_ n2_; (try clear hb); (try clear hb2); (try clear hk); (try clear hi)) | ((with_reducible refine gate_callee (f := 15) rfl ?_); refine goesL_ (some 34) rfl rfl Tryz.func15 (by kernel_rfl) rfl #[.string t235] rfl (by (try simp only [List.map_toArray, List.map_cons, List.map_nil]); first | done | rfl | (simp only [List.length_drop, List.length_take]; rfl)) ?_; (with_reducible refine (line_Parse.calls kj1 t235 t237 t238 t241 t242 t243 _ (by first | (with_reducible exact hG) | exact GG.below hG (by repeat (first | (with_reducible first | exact HB.out | apply below_alloc | apply pw_below_drewN | apply below_drew1 | refine below_set ?_ GE234.out) | exact HB.out))) A13.out).mono ?_); rintro e w107 ⟨v239, rfl, ho0, hb⟩; refine ⟨_, rfl, ?_⟩; have n0_ := Aside0.mk (Kd.S_elder' (by (with_reducible repeat (first | apply Kd.S_alloc | apply Kd.S_drewN | apply Kd.S_drew)); exact HO230.out) (Kd.S_base ho0) hb); have n1_ := Aside0.mk (Kd.S_lower (Kd.S_new' ho0 (Kd.S_lt (by (with_reducible repeat (first | apply Kd.S_alloc | apply Kd.S_drewN | apply Kd.S_drew)); exact HO230.out))) (below_size (by repeat (first | (with_reducible first | exact HB.out | apply below_alloc | apply pw_below_drewN | apply below_drew1 | refine below_set ?_ GE234.out) | exact HB.out)))); have n2_ := Aside0.mk (blk_below (g := gb234) (o := .cells #[.string t227, .slice Ao105 t228.length co105, .string t231] 32 (0, 0)) (by (with_reducible repeat (first | refine blk_drewN ?_ _ | refine blk_drew ?_ | refine blk_alloc ?_ _)); exact BK234.out) hb); have n3_ := Aside0.mk (below_step (by repeat (first | (with_reducible first | exact HB.out | apply below_alloc | apply pw_below_drewN | apply below_drew1 | refine below_set ?_ GE234.out) | exact HB.out)) hb); clear HO230; clear BK234; clear HB; have HO230 := n0_; have HO240 := n1_; have BK234 := n2_; have HB := n3_; clear n0_ n1_ n2_ n3_; (try clear hb); (try clear hb2); (try clear hk); (try clear hi); (try clear ho0)) | ((with_reducible refine gate_dst (N := 8) rfl ?_); (try (refine gate_guard (by rfl) ?_; dsimp only)); refine box_event ?hg (N := 8) ?hd (cs := #[.string (⟨#[]⟩ : ByteArray), .slice none 0 0, .string (⟨#[]⟩ : ByteArray)]) (t := 32) ?hr ?_; (case hd => rfl); (case hg => rfl); (case hr => first | (go_simp; done) | (go_simp; rfl)); intro gb244 hg w108 hbox hb; have n0_ := Aside0.mk (Kd.S_below (by (with_reducible repeat (first | apply Kd.S_alloc | apply Kd.S_drewN | apply Kd.S_drew)); exact HO230.out) hb); have n1_ := Aside0.mk (Kd.S_below (by (with_reducible repeat (first | apply Kd.S_alloc | apply Kd.S_drewN | apply Kd.S_drew)); exact HO240.out) hb); have n2_ := Aside0.mk (blk_below (g := gb234) (o := .cells #[.string t227, .slice Ao105 t228.length co105, .string t231] 32 (0, 0)) (by (with_reducible repeat (first | refine blk_drewN ?_ _ | refine blk_drew ?_ | refine blk_alloc ?_ _)); exact BK234.out) hb); have n3_ := Aside0.mk (below_step (by repeat (first | (with_reducible first | exact HB.out | apply below_alloc | apply pw_below_drewN | apply below_drew1 | refine below_set ?_ GE234.out) | exact HB.out)) hb); have n4_ := Aside0.mk (hbox); have n5_ := Aside0.mk ((by rw [hg]; exact (below_size (by repeat (first | (with_reducible first | exact HB.out | apply below_alloc | apply pw_below_drewN | apply below_drew1 | refine below_set ?_ GE234.out) | exact HB.out))) : w.heap.size ≤ gb244)); have n6_ := Aside0.mk ((by rw [hg]; exact (below_size (by repeat (first | (with_reducible first | exact HB.out | apply below_alloc | apply pw_below_drewN | apply below_drew1 | refine below_set ?_ GE234.out) | exact HB.out))) : w.heap.size ≤ gb244)); have n7_ := Aside0.mk ((by rw [hg]; exact Nat.ne_of_lt (blk_lt (g := gb234) (o := .cells #[.string t227, .slice Ao105 t228.length co105, .string t231] 32 (0, 0)) (by (with_reducible repeat (first | refine blk_drewN ?_ _ | refine blk_drew ?_ | refine blk_alloc ?_ _)); exact BK234.out)) : gb234 ≠ gb244)); have n8_ := Aside0.mk ((by rw [hg]; exact Nat.ne_of_gt (blk_lt (g := gb234) (o := .cells #[.string t227, .slice Ao105 t228.length co105, .string t231] 32 (0, 0)) (by (with_reducible repeat (first | refine blk_drewN ?_ _ | refine blk_drew ?_ | refine blk_alloc ?_ _)); exact BK234.out)) : gb244 ≠ gb234)); clear HO230; clear HO240; clear BK234; clear HB; have HO230 := n0_; have HO240 := n1_; have BK234 := n2_; have HB := n3_; have BK244 := n4_; have GW244 := n5_; have GE244 := n6_; have NB234_244 := n7_; have NB244_234 := n8_; clear n0_ n1_ n2_ n3_ n4_ n5_ n6_ n7_ n8_; clear hb hbox hg; have hnb109 := NB244_234.out; have hnc109 := NB234_244.out; have hcz110_0 : w108.cell? ⟨gb244, 0, none⟩ = some (.string (⟨#[]⟩ : ByteArray)) := (blk_cell BK244.out 0).trans rfl; have hcz110_1 : w108.cell? ⟨gb244, 1, none⟩ = some (.slice none 0 0) := (blk_cell BK244.out 1).trans rfl; have hcz110_2 : w108.cell? ⟨gb244, 2, none⟩ = some (.string (⟨#[]⟩ : ByteArray)) := (blk_cell BK244.out 2).trans rfl; have hfz110_0 := blk_frozen BK244.out 0; have hfz110_1 := blk_frozen BK244.out 1; have hfz110_2 := blk_frozen BK244.out 2; obtain ⟨Ao111, co111, eo111⟩ := Kd.S_slice HO240.out; subst eo111; have hcz112_0 : w108.cell? ⟨gb234, 0, none⟩ = some (.string t227) := (blk_cell BK234.out 0).trans rfl; have hcz112_1 : w108.cell? ⟨gb234, 1, none⟩ = some (.slice Ao105 t228.length co105) := (blk_cell BK234.out 1).trans rfl; have hcz112_2 : w108.cell? ⟨gb234, 2, none⟩ = some (.string t231) := (blk_cell BK234.out 2).trans rfl; have hfz112_0 := blk_frozen BK234.out 0; have hfz112_1 := blk_frozen BK234.out 1; have hfz112_2 := blk_frozen BK234.out 2) | ((with_reducible refine gate_callee (f := 11) rfl ?_); refine goesL_ (some 39) rfl rfl Tryz.func11 (by kernel_rfl) rfl #[.agg #[.string t227, .slice Ao105 t228.length co105, .string t231]] rfl (by (try simp only [List.map_toArray, List.map_cons, List.map_nil]); first | done | rfl | (simp only [List.length_drop, List.length_take]; rfl)) ?_; (with_reducible refine (line_Formed.calls kj1 t227 _ _ t228 t231 true _ (by first | (with_reducible exact hG) | exact GG.below hG (by repeat (first | (with_reducible first | exact HB.out | apply below_alloc | apply pw_below_drewN | apply below_drew1 | refine below_set ?_ GE234.out | refine below_set ?_ GE244.out) | exact HB.out))) ?side1 ?side2 A14.out).mono ?_); (case side1 => refine (Kd.S_reads' (e := 53) (base := w.heap.size) (ok := fun k_ => (True ∧ some k_ ≠ (.slice Ao111 t238.length co111 : Value).ownBlock)) (n := t228.length) (c := co105) ?_).2.2; exact (by (with_reducible repeat (first | apply Kd.S_alloc | apply Kd.S_drewN | apply Kd.S_drew)); exact (Kd.S_mono (Kd.S_far (p := ⟨gb244, 2, none⟩) (Kd.S_far (p := ⟨gb244, 1, none⟩) (Kd.S_far (p := ⟨gb244, 0, none⟩) (Kd.S_types HO230.out BK244.out (by decide)) (fun _ hk => hk.2) (.string t237)) (fun _ hk => hk.2) (.slice Ao111 t238.length co111)) (fun _ hk => hk.2) (.string t241)) (fun _ h_ => h_.1)))); (case side2 => exact (Kd.S_reads' HO230.out).2.1); rintro e w113 ⟨rfl, hb⟩; refine ⟨_, rfl, ?_⟩; have n0_ := Aside0.mk (Kd.S_below (by (with_reducible repeat (first | apply Kd.S_alloc | apply Kd.S_drewN | apply Kd.S_drew)); exact (Kd.S_mono (Kd.S_far (p := ⟨gb244, 2, none⟩) (Kd.S_far (p := ⟨gb244, 1, none⟩) (Kd.S_far (p := ⟨gb244, 0, none⟩) (Kd.S_types HO230.out BK244.out (by decide)) (fun _ hk => hk.2) (.string t237)) (fun _ hk => hk.2) (.slice Ao111 t238.length co111)) (fun _ hk => hk.2) (.string t241)) (fun _ h_ => h_.1))) hb); have n1_ := Aside0.mk (Kd.S_below (by (with_reducible repeat (first | apply Kd.S_alloc | apply Kd.S_drewN | apply Kd.S_drew)); exact (Kd.S_mono (Kd.S_far (p := ⟨gb244, 2, none⟩) (Kd.S_far (p := ⟨gb244, 1, none⟩) (Kd.S_far (p := ⟨gb244, 0, none⟩) (Kd.S_types HO240.out BK244.out (by decide)) (fun _ hk => hk.2) (.string t237)) (fun _ hk => hk.2) (.slice Ao111 t238.length co111)) (fun _ hk => hk.2) (.string t241)) (fun _ h_ => h_.1))) hb); have n2_ := Aside0.mk (blk_below (g := gb234) (o := .cells #[.string t227, .slice Ao105 t228.length co105, .string t231] 32 (0, 0)) (by (with_reducible repeat (first | refine blk_drewN ?_ _ | refine blk_drew ?_ | refine blk_alloc ?_ _)); refine blk_far ?_ NB234_244.out _; (with_reducible repeat (first | refine blk_drewN ?_ _ | refine blk_drew ?_ | refine blk_alloc ?_ _)); refine blk_far ?_ NB234_244.out _; (with_reducible repeat (first | refine blk_drewN ?_ _ | refine blk_drew ?_ | refine blk_alloc ?_ _)); refine blk_far ?_ NB234_244.out _; (with_reducible repeat (first | refine blk_drewN ?_ _ | refine blk_drew ?_ | refine blk_alloc ?_ _)); exact BK234.out) hb); have n3_ := Aside0.mk (blk_below (g := gb244) (o := .cells #[.string t237, .slice Ao111 t238.length co111, .string t241] 32 (0, 0)) (by (with_reducible repeat (first | refine blk_drewN ?_ _ | refine blk_drew ?_ | refine blk_alloc ?_ _)); refine blk_put (cs := #[.string t237, .slice Ao111 t238.length co111, .string (⟨#[]⟩ : ByteArray)]) ?_ 2 _ rfl; (with_reducible repeat (first | refine blk_drewN ?_ _ | refine blk_drew ?_ | refine blk_alloc ?_ _)); refine blk_put (cs := #[.string t237, .slice none 0 0, .string (⟨#[]⟩ : ByteArray)]) ?_ 1 _ rfl; (with_reducible repeat (first | refine blk_drewN ?_ _ | refine blk_drew ?_ | refine blk_alloc ?_ _)); refine blk_put (cs := #[.string (⟨#[]⟩ : ByteArray), .slice none 0 0, .string (⟨#[]⟩ : ByteArray)]) ?_ 0 _ rfl; (with_reducible repeat (first | refine blk_drewN ?_ _ | refine blk_drew ?_ | refine blk_alloc ?_ _)); exact BK244.out) hb); have n4_ := Aside0.mk (below_step (by repeat (first | (with_reducible first | exact HB.out | apply below_alloc | apply pw_below_drewN | apply below_drew1 | refine below_set ?_ GE234.out | refine below_set ?_ GE244.out) | exact HB.out)) hb); clear HO230; clear HO240; clear BK234; clear BK244; clear HB; have HO230 := n0_; have HO240 := n1_; have BK234 := n2_; have BK244 := n3_; have HB := n4_; clear n0_ n1_ n2_ n3_ n4_; (try clear hb); (try clear hb2); (try clear hk); (try clear hi)))
                go_ret
                exact ⟨by first | rfl | (simp [errW_none, errW_some] <;> rfl) | (simp [*, errW_none, errW_some] <;> rfl), by repeat (first | (with_reducible first | exact HB.out | apply below_alloc | apply pw_below_drewN | apply below_drew1 | refine below_set ?_ GE234.out | refine below_set ?_ GE244.out) | exact HB.out)⟩
          · replace c15 := Bool.eq_false_iff.mpr c15
            subst c15
            have H1 : (some false) = some r := by rw [if_neg (show ¬ (false = true) by decide)] at H; exact H
            clear H
            have H := H1
            clear H1
            obtain rfl := Option.some.inj H
            go_wp2_with (first | ((with_reducible refine gate_callee (f := 15) rfl ?_); refine goesL_ (some 21) rfl rfl Tryz.func15 (by kernel_rfl) rfl #[.string a0] rfl (by (try simp only [List.map_toArray, List.map_cons, List.map_nil]); first | done | rfl | (simp only [List.length_drop, List.length_take]; rfl)) ?_; (with_reducible refine (line_Parse.calls kj1 a0 t227 t228 t231 t232 t233 _ (by first | (with_reducible exact hG) | exact GG.below hG (by repeat (first | (with_reducible first | exact HB.out | apply below_alloc | apply pw_below_drewN | apply below_drew1) | exact HB.out))) A10.out).mono ?_); rintro e w114 ⟨v229, rfl, ho0, hb⟩; refine ⟨_, rfl, ?_⟩; have n0_ := Aside0.mk (Kd.S_lower ho0 (below_size (by repeat (first | (with_reducible first | exact HB.out | apply below_alloc | apply pw_below_drewN | apply below_drew1) | exact HB.out)))); have n1_ := Aside0.mk (below_step (by repeat (first | (with_reducible first | exact HB.out | apply below_alloc | apply pw_below_drewN | apply below_drew1) | exact HB.out)) hb); clear HB; have HO230 := n0_; have HB := n1_; clear n0_ n1_; (try clear hb); (try clear hb2); (try clear hk); (try clear hi); (try clear ho0)) | ((with_reducible refine gate_dst (N := 3) rfl ?_); (try (refine gate_guard (by rfl) ?_; dsimp only)); refine box_event ?hg (N := 3) ?hd (cs := #[.string (⟨#[]⟩ : ByteArray), .slice none 0 0, .string (⟨#[]⟩ : ByteArray)]) (t := 32) ?hr ?_; (case hd => rfl); (case hg => rfl); (case hr => first | (go_simp; done) | (go_simp; rfl)); intro gb234 hg w115 hbox hb; have n0_ := Aside0.mk (Kd.S_below (by (with_reducible repeat (first | apply Kd.S_alloc | apply Kd.S_drewN | apply Kd.S_drew)); exact HO230.out) hb); have n1_ := Aside0.mk (below_step (by repeat (first | (with_reducible first | exact HB.out | apply below_alloc | apply pw_below_drewN | apply below_drew1) | exact HB.out)) hb); have n2_ := Aside0.mk (hbox); have n3_ := Aside0.mk ((by rw [hg]; exact (below_size (by repeat (first | (with_reducible first | exact HB.out | apply below_alloc | apply pw_below_drewN | apply below_drew1) | exact HB.out))) : w.heap.size ≤ gb234)); have n4_ := Aside0.mk ((by rw [hg]; exact (below_size (by repeat (first | (with_reducible first | exact HB.out | apply below_alloc | apply pw_below_drewN | apply below_drew1) | exact HB.out))) : w.heap.size ≤ gb234)); clear HO230; clear HB; have HO230 := n0_; have HB := n1_; have BK234 := n2_; have GW234 := n3_; have GE234 := n4_; clear n0_ n1_ n2_ n3_ n4_; clear hb hbox hg; have hcz116_0 : w115.cell? ⟨gb234, 0, none⟩ = some (.string (⟨#[]⟩ : ByteArray)) := (blk_cell BK234.out 0).trans rfl; have hcz116_1 : w115.cell? ⟨gb234, 1, none⟩ = some (.slice none 0 0) := (blk_cell BK234.out 1).trans rfl; have hcz116_2 : w115.cell? ⟨gb234, 2, none⟩ = some (.string (⟨#[]⟩ : ByteArray)) := (blk_cell BK234.out 2).trans rfl; have hfz116_0 := blk_frozen BK234.out 0; have hfz116_1 := blk_frozen BK234.out 1; have hfz116_2 := blk_frozen BK234.out 2; obtain ⟨Ao117, co117, eo117⟩ := Kd.S_slice HO230.out; subst eo117) | ((with_reducible refine gate_callee (f := 8) rfl ?_); refine goesL_ (some 29) rfl rfl Tryz.func8 (by kernel_rfl) rfl #[.agg #[.string t227, .slice Ao117 t228.length co117, .string t231]] rfl (by (try simp only [List.map_toArray, List.map_cons, List.map_nil]); first | done | rfl | (simp only [List.length_drop, List.length_take]; rfl)) ?_; (with_reducible refine (line_Print.calls kj1 t227 _ _ t228 t231 t235 t236 _ (by first | (with_reducible exact hG) | exact GG.below hG (by repeat (first | (with_reducible first | exact HB.out | apply below_alloc | apply pw_below_drewN | apply below_drew1 | refine below_set ?_ GE234.out) | exact HB.out))) ?side1 ?side2 A12.out).mono ?_); (case side1 => refine (Kd.S_reads' (e := 53) (base := w.heap.size) (ok := fun k_ => True) (n := t228.length) (c := co117) ?_).2.2; exact (by (with_reducible repeat (first | apply Kd.S_alloc | apply Kd.S_drewN | apply Kd.S_drew)); exact (Kd.S_mono (Kd.S_far (p := ⟨gb234, 2, none⟩) (Kd.S_far (p := ⟨gb234, 1, none⟩) (Kd.S_far (p := ⟨gb234, 0, none⟩) (Kd.S_types HO230.out BK234.out (by decide)) (fun _ hk => hk.2) (.string t227)) (fun _ hk => hk.2) (.slice Ao117 t228.length co117)) (fun _ hk => hk.2) (.string t231)) (fun _ h_ => h_.1)))); (case side2 => exact (Kd.S_reads' HO230.out).2.1); rintro e w118 ⟨rfl, hb⟩; refine ⟨_, rfl, ?_⟩; have n0_ := Aside0.mk (Kd.S_below (by (with_reducible repeat (first | apply Kd.S_alloc | apply Kd.S_drewN | apply Kd.S_drew)); exact (Kd.S_mono (Kd.S_far (p := ⟨gb234, 2, none⟩) (Kd.S_far (p := ⟨gb234, 1, none⟩) (Kd.S_far (p := ⟨gb234, 0, none⟩) (Kd.S_types HO230.out BK234.out (by decide)) (fun _ hk => hk.2) (.string t227)) (fun _ hk => hk.2) (.slice Ao117 t228.length co117)) (fun _ hk => hk.2) (.string t231)) (fun _ h_ => h_.1))) hb); have n1_ := Aside0.mk (blk_below (g := gb234) (o := .cells #[.string t227, .slice Ao117 t228.length co117, .string t231] 32 (0, 0)) (by (with_reducible repeat (first | refine blk_drewN ?_ _ | refine blk_drew ?_ | refine blk_alloc ?_ _)); refine blk_put (cs := #[.string t227, .slice Ao117 t228.length co117, .string (⟨#[]⟩ : ByteArray)]) ?_ 2 _ rfl; (with_reducible repeat (first | refine blk_drewN ?_ _ | refine blk_drew ?_ | refine blk_alloc ?_ _)); refine blk_put (cs := #[.string t227, .slice none 0 0, .string (⟨#[]⟩ : ByteArray)]) ?_ 1 _ rfl; (with_reducible repeat (first | refine blk_drewN ?_ _ | refine blk_drew ?_ | refine blk_alloc ?_ _)); refine blk_put (cs := #[.string (⟨#[]⟩ : ByteArray), .slice none 0 0, .string (⟨#[]⟩ : ByteArray)]) ?_ 0 _ rfl; (with_reducible repeat (first | refine blk_drewN ?_ _ | refine blk_drew ?_ | refine blk_alloc ?_ _)); exact BK234.out) hb); have n2_ := Aside0.mk (below_step (by repeat (first | (with_reducible first | exact HB.out | apply below_alloc | apply pw_below_drewN | apply below_drew1 | refine below_set ?_ GE234.out) | exact HB.out)) hb); clear HO230; clear BK234; clear HB; have HO230 := n0_; have BK234 := n1_; have HB := n2_; clear n0_ n1_ n2_; (try clear hb); (try clear hb2); (try clear hk); (try clear hi)) | ((with_reducible refine gate_callee (f := 15) rfl ?_); refine goesL_ (some 34) rfl rfl Tryz.func15 (by kernel_rfl) rfl #[.string t235] rfl (by (try simp only [List.map_toArray, List.map_cons, List.map_nil]); first | done | rfl | (simp only [List.length_drop, List.length_take]; rfl)) ?_; (with_reducible refine (line_Parse.calls kj1 t235 t237 t238 t241 t242 t243 _ (by first | (with_reducible exact hG) | exact GG.below hG (by repeat (first | (with_reducible first | exact HB.out | apply below_alloc | apply pw_below_drewN | apply below_drew1 | refine below_set ?_ GE234.out) | exact HB.out))) A13.out).mono ?_); rintro e w119 ⟨v239, rfl, ho0, hb⟩; refine ⟨_, rfl, ?_⟩; have n0_ := Aside0.mk (Kd.S_elder' (by (with_reducible repeat (first | apply Kd.S_alloc | apply Kd.S_drewN | apply Kd.S_drew)); exact HO230.out) (Kd.S_base ho0) hb); have n1_ := Aside0.mk (Kd.S_lower (Kd.S_new' ho0 (Kd.S_lt (by (with_reducible repeat (first | apply Kd.S_alloc | apply Kd.S_drewN | apply Kd.S_drew)); exact HO230.out))) (below_size (by repeat (first | (with_reducible first | exact HB.out | apply below_alloc | apply pw_below_drewN | apply below_drew1 | refine below_set ?_ GE234.out) | exact HB.out)))); have n2_ := Aside0.mk (blk_below (g := gb234) (o := .cells #[.string t227, .slice Ao117 t228.length co117, .string t231] 32 (0, 0)) (by (with_reducible repeat (first | refine blk_drewN ?_ _ | refine blk_drew ?_ | refine blk_alloc ?_ _)); exact BK234.out) hb); have n3_ := Aside0.mk (below_step (by repeat (first | (with_reducible first | exact HB.out | apply below_alloc | apply pw_below_drewN | apply below_drew1 | refine below_set ?_ GE234.out) | exact HB.out)) hb); clear HO230; clear BK234; clear HB; have HO230 := n0_; have HO240 := n1_; have BK234 := n2_; have HB := n3_; clear n0_ n1_ n2_ n3_; (try clear hb); (try clear hb2); (try clear hk); (try clear hi); (try clear ho0)) | ((with_reducible refine gate_dst (N := 8) rfl ?_); (try (refine gate_guard (by rfl) ?_; dsimp only)); refine box_event ?hg (N := 8) ?hd (cs := #[.string (⟨#[]⟩ : ByteArray), .slice none 0 0, .string (⟨#[]⟩ : ByteArray)]) (t := 32) ?hr ?_; (case hd => rfl); (case hg => rfl); (case hr => first | (go_simp; done) | (go_simp; rfl)); intro gb244 hg w120 hbox hb; have n0_ := Aside0.mk (Kd.S_below (by (with_reducible repeat (first | apply Kd.S_alloc | apply Kd.S_drewN | apply Kd.S_drew)); exact HO230.out) hb); have n1_ := Aside0.mk (Kd.S_below (by (with_reducible repeat (first | apply Kd.S_alloc | apply Kd.S_drewN | apply Kd.S_drew)); exact HO240.out) hb); have n2_ := Aside0.mk (blk_below (g := gb234) (o := .cells #[.string t227, .slice Ao117 t228.length co117, .string t231] 32 (0, 0)) (by (with_reducible repeat (first | refine blk_drewN ?_ _ | refine blk_drew ?_ | refine blk_alloc ?_ _)); exact BK234.out) hb); have n3_ := Aside0.mk (below_step (by repeat (first | (with_reducible first | exact HB.out | apply below_alloc | apply pw_below_drewN | apply below_drew1 | refine below_set ?_ GE234.out) | exact HB.out)) hb); have n4_ := Aside0.mk (hbox); have n5_ := Aside0.mk ((by rw [hg]; exact (below_size (by repeat (first | (with_reducible first | exact HB.out | apply below_alloc | apply pw_below_drewN | apply below_drew1 | refine below_set ?_ GE234.out) | exact HB.out))) : w.heap.size ≤ gb244)); have n6_ := Aside0.mk ((by rw [hg]; exact (below_size (by repeat (first | (with_reducible first | exact HB.out | apply below_alloc | apply pw_below_drewN | apply below_drew1 | refine below_set ?_ GE234.out) | exact HB.out))) : w.heap.size ≤ gb244)); have n7_ := Aside0.mk ((by rw [hg]; exact Nat.ne_of_lt (blk_lt (g := gb234) (o := .cells #[.string t227, .slice Ao117 t228.length co117, .string t231] 32 (0, 0)) (by (with_reducible repeat (first | refine blk_drewN ?_ _ | refine blk_drew ?_ | refine blk_alloc ?_ _)); exact BK234.out)) : gb234 ≠ gb244)); have n8_ := Aside0.mk ((by rw [hg]; exact Nat.ne_of_gt (blk_lt (g := gb234) (o := .cells #[.string t227, .slice Ao117 t228.length co117, .string t231] 32 (0, 0)) (by (with_reducible repeat (first | refine blk_drewN ?_ _ | refine blk_drew ?_ | refine blk_alloc ?_ _)); exact BK234.out)) : gb244 ≠ gb234)); clear HO230; clear HO240; clear BK234; clear HB; have HO230 := n0_; have HO240 := n1_; have BK234 := n2_; have HB := n3_; have BK244 := n4_; have GW244 := n5_; have GE244 := n6_; have NB234_244 := n7_; have NB244_234 := n8_; clear n0_ n1_ n2_ n3_ n4_ n5_ n6_ n7_ n8_; clear hb hbox hg; have hnb121 := NB244_234.out; have hnc121 := NB234_244.out; have hcz122_0 : w120.cell? ⟨gb244, 0, none⟩ = some (.string (⟨#[]⟩ : ByteArray)) := (blk_cell BK244.out 0).trans rfl; have hcz122_1 : w120.cell? ⟨gb244, 1, none⟩ = some (.slice none 0 0) := (blk_cell BK244.out 1).trans rfl; have hcz122_2 : w120.cell? ⟨gb244, 2, none⟩ = some (.string (⟨#[]⟩ : ByteArray)) := (blk_cell BK244.out 2).trans rfl; have hfz122_0 := blk_frozen BK244.out 0; have hfz122_1 := blk_frozen BK244.out 1; have hfz122_2 := blk_frozen BK244.out 2; obtain ⟨Ao123, co123, eo123⟩ := Kd.S_slice HO240.out; subst eo123; have hcz124_0 : w120.cell? ⟨gb234, 0, none⟩ = some (.string t227) := (blk_cell BK234.out 0).trans rfl; have hcz124_1 : w120.cell? ⟨gb234, 1, none⟩ = some (.slice Ao117 t228.length co117) := (blk_cell BK234.out 1).trans rfl; have hcz124_2 : w120.cell? ⟨gb234, 2, none⟩ = some (.string t231) := (blk_cell BK234.out 2).trans rfl; have hfz124_0 := blk_frozen BK234.out 0; have hfz124_1 := blk_frozen BK234.out 1; have hfz124_2 := blk_frozen BK234.out 2) | ((with_reducible refine gate_callee (f := 11) rfl ?_); refine goesL_ (some 39) rfl rfl Tryz.func11 (by kernel_rfl) rfl #[.agg #[.string t227, .slice Ao117 t228.length co117, .string t231]] rfl (by (try simp only [List.map_toArray, List.map_cons, List.map_nil]); first | done | rfl | (simp only [List.length_drop, List.length_take]; rfl)) ?_; (with_reducible refine (line_Formed.calls kj1 t227 _ _ t228 t231 false _ (by first | (with_reducible exact hG) | exact GG.below hG (by repeat (first | (with_reducible first | exact HB.out | apply below_alloc | apply pw_below_drewN | apply below_drew1 | refine below_set ?_ GE234.out | refine below_set ?_ GE244.out) | exact HB.out))) ?side1 ?side2 A14.out).mono ?_); (case side1 => refine (Kd.S_reads' (e := 53) (base := w.heap.size) (ok := fun k_ => (True ∧ some k_ ≠ (.slice Ao123 t238.length co123 : Value).ownBlock)) (n := t228.length) (c := co117) ?_).2.2; exact (by (with_reducible repeat (first | apply Kd.S_alloc | apply Kd.S_drewN | apply Kd.S_drew)); exact (Kd.S_mono (Kd.S_far (p := ⟨gb244, 2, none⟩) (Kd.S_far (p := ⟨gb244, 1, none⟩) (Kd.S_far (p := ⟨gb244, 0, none⟩) (Kd.S_types HO230.out BK244.out (by decide)) (fun _ hk => hk.2) (.string t237)) (fun _ hk => hk.2) (.slice Ao123 t238.length co123)) (fun _ hk => hk.2) (.string t241)) (fun _ h_ => h_.1)))); (case side2 => exact (Kd.S_reads' HO230.out).2.1); rintro e w125 ⟨rfl, hb⟩; refine ⟨_, rfl, ?_⟩; have n0_ := Aside0.mk (Kd.S_below (by (with_reducible repeat (first | apply Kd.S_alloc | apply Kd.S_drewN | apply Kd.S_drew)); exact (Kd.S_mono (Kd.S_far (p := ⟨gb244, 2, none⟩) (Kd.S_far (p := ⟨gb244, 1, none⟩) (Kd.S_far (p := ⟨gb244, 0, none⟩) (Kd.S_types HO230.out BK244.out (by decide)) (fun _ hk => hk.2) (.string t237)) (fun _ hk => hk.2) (.slice Ao123 t238.length co123)) (fun _ hk => hk.2) (.string t241)) (fun _ h_ => h_.1))) hb); have n1_ := Aside0.mk (Kd.S_below (by (with_reducible repeat (first | apply Kd.S_alloc | apply Kd.S_drewN | apply Kd.S_drew)); exact (Kd.S_mono (Kd.S_far (p := ⟨gb244, 2, none⟩) (Kd.S_far (p := ⟨gb244, 1, none⟩) (Kd.S_far (p := ⟨gb244, 0, none⟩) (Kd.S_types HO240.out BK244.out (by decide)) (fun _ hk => hk.2) (.string t237)) (fun _ hk => hk.2) (.slice Ao123 t238.length co123)) (fun _ hk => hk.2) (.string t241)) (fun _ h_ => h_.1))) hb); have n2_ := Aside0.mk (blk_below (g := gb234) (o := .cells #[.string t227, .slice Ao117 t228.length co117, .string t231] 32 (0, 0)) (by (with_reducible repeat (first | refine blk_drewN ?_ _ | refine blk_drew ?_ | refine blk_alloc ?_ _)); refine blk_far ?_ NB234_244.out _; (with_reducible repeat (first | refine blk_drewN ?_ _ | refine blk_drew ?_ | refine blk_alloc ?_ _)); refine blk_far ?_ NB234_244.out _; (with_reducible repeat (first | refine blk_drewN ?_ _ | refine blk_drew ?_ | refine blk_alloc ?_ _)); refine blk_far ?_ NB234_244.out _; (with_reducible repeat (first | refine blk_drewN ?_ _ | refine blk_drew ?_ | refine blk_alloc ?_ _)); exact BK234.out) hb); have n3_ := Aside0.mk (blk_below (g := gb244) (o := .cells #[.string t237, .slice Ao123 t238.length co123, .string t241] 32 (0, 0)) (by (with_reducible repeat (first | refine blk_drewN ?_ _ | refine blk_drew ?_ | refine blk_alloc ?_ _)); refine blk_put (cs := #[.string t237, .slice Ao123 t238.length co123, .string (⟨#[]⟩ : ByteArray)]) ?_ 2 _ rfl; (with_reducible repeat (first | refine blk_drewN ?_ _ | refine blk_drew ?_ | refine blk_alloc ?_ _)); refine blk_put (cs := #[.string t237, .slice none 0 0, .string (⟨#[]⟩ : ByteArray)]) ?_ 1 _ rfl; (with_reducible repeat (first | refine blk_drewN ?_ _ | refine blk_drew ?_ | refine blk_alloc ?_ _)); refine blk_put (cs := #[.string (⟨#[]⟩ : ByteArray), .slice none 0 0, .string (⟨#[]⟩ : ByteArray)]) ?_ 0 _ rfl; (with_reducible repeat (first | refine blk_drewN ?_ _ | refine blk_drew ?_ | refine blk_alloc ?_ _)); exact BK244.out) hb); have n4_ := Aside0.mk (below_step (by repeat (first | (with_reducible first | exact HB.out | apply below_alloc | apply pw_below_drewN | apply below_drew1 | refine below_set ?_ GE234.out | refine below_set ?_ GE244.out) | exact HB.out)) hb); clear HO230; clear HO240; clear BK234; clear BK244; clear HB; have HO230 := n0_; have HO240 := n1_; have BK234 := n2_; have BK244 := n3_; have HB := n4_; clear n0_ n1_ n2_ n3_ n4_; (try clear hb); (try clear hb2); (try clear hk); (try clear hi)))
            go_ret
            exact ⟨by first | rfl | (simp [errW_none, errW_some] <;> rfl) | (simp [*, errW_none, errW_some] <;> rfl), by repeat (first | (with_reducible first | exact HB.out | apply below_alloc | apply pw_below_drewN | apply below_drew1 | refine below_set ?_ GE234.out | refine below_set ?_ GE244.out) | exact HB.out)⟩
        · rw [if_neg c11] at H
          have c11b0 : (t233 == 0) = false := beq_eq_false_iff_ne.mpr c11
          have c11b1 : (t233 != 0) = true := bne_iff_ne.mpr c11
          obtain rfl := Option.some.inj H
          go_wp2_with (first | ((with_reducible refine gate_callee (f := 15) rfl ?_); refine goesL_ (some 21) rfl rfl Tryz.func15 (by kernel_rfl) rfl #[.string a0] rfl (by (try simp only [List.map_toArray, List.map_cons, List.map_nil]); first | done | rfl | (simp only [List.length_drop, List.length_take]; rfl)) ?_; (with_reducible refine (line_Parse.calls kj1 a0 t227 t228 t231 t232 t233 _ (by first | (with_reducible exact hG) | exact GG.below hG (by repeat (first | (with_reducible first | exact HB.out | apply below_alloc | apply pw_below_drewN | apply below_drew1) | exact HB.out))) A10.out).mono ?_); rintro e w126 ⟨v229, rfl, ho0, hb⟩; refine ⟨_, rfl, ?_⟩; have n0_ := Aside0.mk (Kd.S_lower ho0 (below_size (by repeat (first | (with_reducible first | exact HB.out | apply below_alloc | apply pw_below_drewN | apply below_drew1) | exact HB.out)))); have n1_ := Aside0.mk (below_step (by repeat (first | (with_reducible first | exact HB.out | apply below_alloc | apply pw_below_drewN | apply below_drew1) | exact HB.out)) hb); clear HB; have HO230 := n0_; have HB := n1_; clear n0_ n1_; (try clear hb); (try clear hb2); (try clear hk); (try clear hi); (try clear ho0)) | ((with_reducible refine gate_dst (N := 3) rfl ?_); (try (refine gate_guard (by rfl) ?_; dsimp only)); refine box_event ?hg (N := 3) ?hd (cs := #[.string (⟨#[]⟩ : ByteArray), .slice none 0 0, .string (⟨#[]⟩ : ByteArray)]) (t := 32) ?hr ?_; (case hd => rfl); (case hg => rfl); (case hr => first | (go_simp; done) | (go_simp; rfl)); intro gb234 hg w127 hbox hb; have n0_ := Aside0.mk (Kd.S_below (by (with_reducible repeat (first | apply Kd.S_alloc | apply Kd.S_drewN | apply Kd.S_drew)); exact HO230.out) hb); have n1_ := Aside0.mk (below_step (by repeat (first | (with_reducible first | exact HB.out | apply below_alloc | apply pw_below_drewN | apply below_drew1) | exact HB.out)) hb); have n2_ := Aside0.mk (hbox); have n3_ := Aside0.mk ((by rw [hg]; exact (below_size (by repeat (first | (with_reducible first | exact HB.out | apply below_alloc | apply pw_below_drewN | apply below_drew1) | exact HB.out))) : w.heap.size ≤ gb234)); have n4_ := Aside0.mk ((by rw [hg]; exact (below_size (by repeat (first | (with_reducible first | exact HB.out | apply below_alloc | apply pw_below_drewN | apply below_drew1) | exact HB.out))) : w.heap.size ≤ gb234)); clear HO230; clear HB; have HO230 := n0_; have HB := n1_; have BK234 := n2_; have GW234 := n3_; have GE234 := n4_; clear n0_ n1_ n2_ n3_ n4_; clear hb hbox hg; have hcz128_0 : w127.cell? ⟨gb234, 0, none⟩ = some (.string (⟨#[]⟩ : ByteArray)) := (blk_cell BK234.out 0).trans rfl; have hcz128_1 : w127.cell? ⟨gb234, 1, none⟩ = some (.slice none 0 0) := (blk_cell BK234.out 1).trans rfl; have hcz128_2 : w127.cell? ⟨gb234, 2, none⟩ = some (.string (⟨#[]⟩ : ByteArray)) := (blk_cell BK234.out 2).trans rfl; have hfz128_0 := blk_frozen BK234.out 0; have hfz128_1 := blk_frozen BK234.out 1; have hfz128_2 := blk_frozen BK234.out 2; obtain ⟨Ao129, co129, eo129⟩ := Kd.S_slice HO230.out; subst eo129))
          go_ret
          exact ⟨by first | rfl | (simp [errW_none, errW_some] <;> rfl) | (simp [*, errW_none, errW_some] <;> rfl), by repeat (first | (with_reducible first | exact HB.out | apply below_alloc | apply pw_below_drewN | apply below_drew1 | refine below_set ?_ GE234.out) | exact HB.out)⟩
end Go.Proofs.YtknmbalhbecdhaaGreatDoor.Print
end
section
set_option linter.unusedVariables false
set_option linter.unusedSimpArgs false
set_option linter.unusedSectionVars false
namespace Go.Proofs.YtknmbalhbecdhaaGreatDoor.Pure
open Go.RowKit Go.Proofs.YtknmbalhbecdhaaGreatDoor.Print Go.Proofs.YtknmbalhbecdhaaGreatDoorW.PrintWords Go.Proofs.YtknmbalhbecdhaaGreatDoorW.PrintLast Go.Proofs.YtknmbalhbecdhaaGreatDoorW.PrintMore
def upN (n : Nat) : Bool := (decide (65 ≤ n) && decide (n ≤ 90)) || (decide (48 ≤ n) && decide (n ≤ 57)) || n == 45
def upB (c : UInt8) : Bool := upN c.toNat
theorem sign_all : ∀ n : Fin 256, line_sign.f ((n.1 : Nat) : Int) true = some (upN n.1) := by decide +kernel
theorem sign_up (c : UInt8) : line_sign.f c.toNat true = some (upB c) := sign_all ⟨c.toNat, c.toNat_lt⟩
def nameR (s : ByteArray) : Bool := s.data.toList.all upB && (decide (1 ≤ s.size) && decide (s.size ≤ 60))
theorem nameL_ev (s : ByteArray) (hs : s.size ≤ 140737488351232) : ∀ (n i : Nat), s.size - i ≤ n → i ≤ s.size → Ev (fun k => line_Name.l0 k s (s.size : Int) i) ((s.data.toList.drop i).all upB && (decide (1 ≤ s.size) && decide (s.size ≤ 60)))
  | 0, i, h, hi => by
    obtain rfl : i = s.size := by omega
    refine Ev.step (f := fun _ => some (decide (1 ≤ s.size) && decide (s.size ≤ 60))) (fun k => ?_) ?_
    · simp only [line_Name.l0]; rw [if_neg (by omega)]
      by_cases h1 : 1 ≤ s.size
      · rw [if_pos (by omega), decide_eq_true h1, Bool.true_and]; exact congrArg some (decide_eq_decide.2 (by omega))
      · rw [if_neg (by omega), decide_eq_false h1, Bool.false_and]
    · rw [List.drop_of_length_le (by simp)]; exact Ev.now _
  | n + 1, i, h, hi => by
    by_cases hlt : i < s.size
    · rw [drop_at s i hlt]
      have hb := bt_nat s i
      have ih := nameL_ev s hs n (i + 1) (by omega) (by omega)
      generalize s.data.toList.getD i 0 = c at *
      refine Ev.step (f := fun k => if upB c = true then line_Name.l0 k s (s.size : Int) ((i + 1 : Nat) : Int) else some false) (fun k => ?_) ?_
      · simp only [line_Name.l0, hb, sign_up, Option.bind_some]
        rw [if_pos (by omega), if_pos (by omega), if_pos (by omega), wrap_one i (by omega)]
      · rw [List.all_cons]
        cases hok : upB c
        · exact Ev.now false
        · simpa using ih
    · exact nameL_ev s hs 0 i (by omega) hi
theorem nameL (s : ByteArray) (hs : s.size ≤ 140737488351232) : Ev (fun k => line_Name.f k s) (nameR s) := by
  have := nameL_ev s hs s.size 0 (by omega) (by omega)
  rw [List.drop_zero] at this
  exact this
def cleanB (x : ByteArray) : Bool := decide (cleanR true x.data.toList = 0)
def parR (nm : ByteArray) (l : List ByteArray) : Bool := nameR nm && (decide (1 ≤ l.length) && (decide (l.length ≤ 60) && l.all cleanB))
theorem cleanB_ne {x : ByteArray} (h : cleanB x = false) : ¬ cleanR true x.data.toList = 0 := of_decide_eq_false h
theorem parL_ev (l : List ByteArray) (hl : l.length ≤ 60) (hs : ∀ x ∈ l, x.size ≤ 140737488351232) : ∀ (n i : Nat), i + n = l.length → Ev (fun k => line_Param_formed.l0 k l (l.length : Int) i) ((l.drop i).all cleanB)
  | 0, i, h => by
    rw [List.drop_eq_nil_of_le (by omega)]
    exact Ev.step (f := fun _ => some true) (fun k => by simp only [line_Param_formed.l0]; rw [if_neg (by omega)]) (Ev.now _)
  | n + 1, i, h => by
    have hil : i < l.length := by omega
    rw [List.drop_eq_getElem_cons hil, List.all_cons]
    refine Ev.step (f := fun k => (escape_Clean.f k l[i] true).bind fun t => if t = 0 then line_Param_formed.l0 k l (l.length : Int) ((i + 1 : Nat) : Int) else some false) (fun k => by simp only [line_Param_formed.l0]; rw [if_pos (by omega), if_pos (by omega), if_pos (by omega), rdS l i hil, wrapS i _ hil (by omega)]) ?_
    refine Ev.bind (escClean _ _ (hs _ (List.getElem_mem hil))) ?_
    have ih := parL_ev l hl hs n (i + 1) (by omega)
    cases hc : cleanB l[i] with
    | false => exact Ev.congr (f := fun _ => some false) (fun k => by rw [if_neg (cleanB_ne hc)]) (Ev.now _)
    | true => rw [Bool.true_and]; exact Ev.congr (fun k => by rw [if_pos (of_decide_eq_true hc)]) ih
theorem parL_f (nm : ByteArray) (l : List ByteArray) (hn : nm.size ≤ 140737488351232) (hs : ∀ x ∈ l, x.size ≤ 140737488351232) : Ev (fun k => line_Param_formed.f k nm l) (parR nm l) := by
  have hno : Ev (fun k => line_Param_formed.j0 k true nm l) false := Ev.step (f := fun _ => some false) (fun k => by simp only [line_Param_formed.j0]; rfl) (Ev.now _)
  refine Ev.bind (nameL nm hn) ?_
  unfold parR
  cases nameR nm with
  | false => exact Ev.congr (fun k => by rw [if_neg (by simp)]) hno
  | true =>
    by_cases h1 : 1 ≤ l.length
    · by_cases h2 : l.length ≤ 60
      · rw [decide_eq_true h1, decide_eq_true h2]
        have e : decide ((l.length : Int) > 60) = false := decide_eq_false (by omega)
        refine Ev.congr (f := fun k => line_Param_formed.j0 k false nm l) (fun k => by rw [if_pos rfl, if_neg (by omega), e]) ?_
        have := parL_ev l h2 hs l.length 0 (by omega)
        rw [List.drop_zero] at this
        exact Ev.step (fun k => by simp only [line_Param_formed.j0]; rfl) this
      · rw [decide_eq_true h1, decide_eq_false h2]
        have e : decide ((l.length : Int) > 60) = true := decide_eq_true (by omega)
        exact Ev.congr (fun k => by rw [if_pos rfl, if_neg (by omega), e]) hno
    · rw [decide_eq_false h1]
      exact Ev.congr (fun k => by rw [if_pos rfl, if_pos (by omega)]) hno
def okPs : List LP → List LP → Bool
  | _, [] => true
  | seen, p :: t => parR p.f0 p.f1 && (!seen.any (hasN p.f0) && okPs (seen ++ [p]) t)
def formR (nm : ByteArray) (l : List LP) (v : ByteArray) : Bool := nameR nm && (decide (l.length ≤ 60) && (decide (cleanR false v.data.toList = 0) && okPs [] l))
theorem idxN_any (a : ByteArray) : ∀ (l : List LP) (i : Nat), decide (idxN a l i ≥ 0) = l.any (hasN a)
  | [], i => rfl
  | p :: t, i => by
    rw [idxN, List.any_cons]
    cases h : hasN a p with
    | true => rw [if_pos rfl, Bool.true_or]; exact decide_eq_true (by omega)
    | false => rw [if_neg (by simp), Bool.false_or]; exact idxN_any a t (i + 1)
theorem rdP (l : List LP) (i : Nat) (h : i < l.length) : rd_T53 l (i : Int) = l[i] := by
  unfold rd_T53
  rw [Int.toNat_natCast, List.getD_eq_getElem?_getD, List.getElem?_eq_getElem h]; rfl
def ParB' (p : LP) : Prop := p.f0.size ≤ 140737488351232 ∧ ∀ x ∈ p.f1, x.size ≤ 140737488351232
theorem formL_ev (nm v : ByteArray) (l : List LP) (hl : l.length ≤ 60) (hs : ∀ p ∈ l, ParB' p) : ∀ (n i : Nat), i + n = l.length → Ev (fun k => line_Formed.l0 k l (l.length : Int) i nm l v) (okPs (l.take i) (l.drop i))
  | 0, i, h => by
    rw [List.drop_eq_nil_of_le (by omega)]
    exact Ev.step (f := fun _ => some true) (fun k => by simp only [line_Formed.l0]; rw [if_neg (by omega)]) (Ev.now _)
  | n + 1, i, h => by
    have hil : i < l.length := by omega
    rw [List.drop_eq_getElem_cons hil, okPs]
    have hp := hs _ (List.getElem_mem hil)
    refine Ev.step (f := fun k => (line_Param_formed.f k l[i].f0 l[i].f1).bind fun t => if t = true then (if idxN l[i].f0 (l.take i) 0 ≥ 0 then some false else line_Formed.l0 k l (l.length : Int) ((i + 1 : Nat) : Int) nm l v) else some false) (fun k => by
      simp only [line_Formed.l0]
      rw [if_pos (by omega), if_pos (by omega), if_pos (by omega), rdP l i hil, wrapS i _ hil (by omega), if_pos (show (i : Int) ≤ (l.length : Int) by omega)]
      rfl) ?_
    refine Ev.bind (parL_f _ _ hp.1 hp.2) ?_
    have ih := formL_ev nm v l hl hs n (i + 1) (by omega)
    rw [List.take_succ_eq_append_getElem hil] at ih
    cases hc : parR l[i].f0 l[i].f1 with
    | false => exact Ev.congr (f := fun _ => some false) (fun k => by rw [if_neg (by simp)]) (Ev.now _)
    | true =>
      rw [Bool.true_and]
      have hi := idxN_any l[i].f0 (l.take i) 0
      cases ha : (l.take i).any (hasN l[i].f0) with
      | true =>
        rw [ha] at hi
        exact Ev.congr (f := fun _ => some false) (fun k => by rw [if_pos rfl, if_pos (of_decide_eq_true hi)]) (Ev.now _)
      | false =>
        rw [ha] at hi
        rw [Bool.not_false, Bool.true_and]
        exact Ev.congr (fun k => by rw [if_pos rfl, if_neg (of_decide_eq_false hi)]) ih
theorem formL (nm v : ByteArray) (l : List LP) (hn : nm.size ≤ 140737488351232) (hv : v.size ≤ 140737488351232) (hs : ∀ p ∈ l, ParB' p) : Ev (fun k => line_Formed.f k nm l v) (formR nm l v) := by
  have hno : Ev (fun k => line_Formed.j0 k true nm l v) false := Ev.step (f := fun _ => some false) (fun k => by simp only [line_Formed.j0]; rfl) (Ev.now _)
  refine Ev.bind (nameL nm hn) ?_
  unfold formR
  cases nameR nm with
  | false => exact Ev.congr (fun k => by rw [if_neg (by simp)]) hno
  | true =>
    by_cases h2 : l.length ≤ 60
    · rw [decide_eq_true h2]
      refine Ev.congr (f := fun k => (escape_Clean.f k v false).bind fun t => line_Formed.j0 k (t != 0) nm l v) (fun k => by rw [if_pos rfl, if_neg (by omega)]) ?_
      refine Ev.bind (escClean v false hv) ?_
      by_cases h3 : cleanR false v.data.toList = 0
      · rw [decide_eq_true h3, h3]
        have := formL_ev nm v l h2 hs l.length 0 (by omega)
        rw [List.drop_zero, List.take_zero] at this
        exact Ev.step (fun k => by simp only [line_Formed.j0]; rfl) this
      · rw [decide_eq_false h3]
        have e : (cleanR false v.data.toList != 0) = true := by simpa using h3
        rw [e]; exact hno
    · rw [decide_eq_false h2]
      exact Ev.congr (fun k => by rw [if_pos rfl, if_pos (by omega)]) hno
end Go.Proofs.YtknmbalhbecdhaaGreatDoor.Pure
end
