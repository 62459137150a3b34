/- strings.byteStringReplacer as escape.Param makes it, walked. (under way) -/
import Derived.Test.YtknmbalhbecdhaaDoorParSpec
import Derived.Test.YtknmbalhbecdhaaDoorXBase
import Derived.WalkKit
import Derived.Deep.LoopGhost
import Derived.Laws.CopyRow
import Derived.Laws.CopyOwn
import Derived.Laws.MakeOwn
import Derived.Deep.QuietTactic
import Derived.Deep.RegionWith
set_option linter.unusedVariables false
set_option linter.unusedSimpArgs false
namespace Go.Proofs.YtknmbalhbecdhaaDoor.Print
open Go.RowKit Go.Proofs.YtknmbalhbecdhaaDoorW.PrintWords Go.Proofs.YtknmbalhbecdhaaDoorW.PrintLast Go.Proofs.YtknmbalhbecdhaaDoorW.PrintMore

def subB (c : Nat) : Nat := if c = 94 then 94 else if c = 10 then 110 else 39
/-- The table of replacements, as build makes it. -/
structure RT (p : Nat) (w : World) : Prop where
  nils : ∀ c : Nat, c < 256 → c ≠ 94 → c ≠ 10 → c ≠ 34 → w.cell? ⟨p, c, none⟩ = some (.slice none 0 0)
  subs : ∀ c : Nat, c = 94 ∨ c = 10 ∨ c = 34 → ∃ q cap, w.cell? ⟨p, c, none⟩ = some (.slice (some ⟨q, 0, none⟩) 2 cap) ∧ 2 ≤ cap ∧ w.cell? ⟨q, 0, none⟩ = some (.int .u8 94) ∧ w.cell? ⟨q, 1, none⟩ = some (.int .u8 (subB c))
  list : ∃ t cap, w.cell? ⟨p, 256, none⟩ = some (.slice (some ⟨t, 0, none⟩) 3 cap) ∧ 3 ≤ cap ∧ w.cell? ⟨t, 0, none⟩ = some (.string ⟨#[34]⟩) ∧ w.cell? ⟨t, 1, none⟩ = some (.string ⟨#[10]⟩) ∧ w.cell? ⟨t, 2, none⟩ = some (.string ⟨#[94]⟩)
theorem cellLt {w : World} {a : Addr} {v : Value} (h : w.cell? a = some v) : a.block < w.heap.size := by
  rcases Nat.lt_or_ge a.block w.heap.size with h9 | h9
  · exact h9
  · simp [World.cell?, Array.getElem?_eq_none h9] at h
theorem RT.under {p : Nat} {w w' : World} (h : RT p w) (hb : Below w.heap.size w w') : RT p w' := by
  refine ⟨fun c h0 h1 h2 h3 => ?_, fun c hc => ?_, ?_⟩
  · have := h.nils c h0 h1 h2 h3; exact (hb.cell (cellLt this)).trans this
  · obtain ⟨q, cap, a1, a2, a3, a4⟩ := h.subs c hc
    exact ⟨q, cap, (hb.cell (cellLt a1)).trans a1, a2, (hb.cell (cellLt a3)).trans a3, (hb.cell (cellLt a4)).trans a4⟩
  · obtain ⟨t, cap, a1, a2, a3, a4, a5⟩ := h.list
    exact ⟨t, cap, (hb.cell (cellLt a1)).trans a1, a2, (hb.cell (cellLt a3)).trans a3, (hb.cell (cellLt a4)).trans a4, (hb.cell (cellLt a5)).trans a5⟩
def isS (c : UInt8) : Bool := c == 94 || c == 10 || c == 34
theorem parB_len (c : UInt8) : (parB c).length = if isS c = true then 2 else 1 := by
  unfold parB isS
  by_cases h1 : c = 94
  · subst h1; rfl
  by_cases h2 : c = 10
  · subst h2; rfl
  by_cases h3 : c = 34
  · subst h3; rfl
  rw [if_neg h1, if_neg h2, if_neg h3, if_neg (by simp [h1, h2, h3])]; rfl
theorem parT_snoc (l : List UInt8) (c : UInt8) : parT (l ++ [c]) = parT l ++ parB c := by simp [parT]
theorem parB_no (c : UInt8) (h : isS c = false) : parB c = [c] := by
  unfold isS at h
  simp only [Bool.or_eq_false_iff, beq_eq_false_iff_ne] at h
  unfold parB
  rw [if_neg h.1.1, if_neg h.1.2, if_neg h.2]
theorem parT_no : ∀ (l : List UInt8), l.any isS = false → parT l = l
  | [], _ => rfl
  | c :: t, h => by
    rw [List.any_cons, Bool.or_eq_false_iff] at h
    rw [parT_cons, parB_no c h.1, parT_no t h.2]; rfl
theorem ba_of (s : ByteArray) : (⟨s.data.toList.toArray⟩ : ByteArray) = s := by cases s; simp
theorem i8ex : (Tryd.prog.info? 5).map (fun i => (i.zero, i.size, i.bytes)) = some (some (.int .u8 0), 1, 1) := by kernel_rfl
structure I8 (i : TypeInfo) : Prop where
  hi : Tryd.prog.info? 5 = some i
  hz : i.zero = some (.int .u8 0)
  hs : i.size = 1
  hb : i.bytes = 1
theorem i8 : ∃ i, I8 i := by
  obtain ⟨i, hi, h⟩ := Option.map_eq_some_iff.1 i8ex
  simp only [Prod.mk.injEq] at h
  exact ⟨i, hi, h.1, h.2.1, h.2.2⟩
theorem cell_blk {w : World} {g : Nat} {cs : Array Value} {t : TypeId} {fr : Nat × Nat} (h : w.heap[g]? = some (.cells cs t fr)) (j : Nat) : w.cell? ⟨g, j, none⟩ = cs[j]? := by simp [World.cell?, h]
theorem froz_blk {w : World} {g : Nat} {cs : Array Value} {t : TypeId} (h : w.heap[g]? = some (.cells cs t (0, 0))) (j : Nat) : w.frozen? ⟨g, j, none⟩ = false := by simp [World.frozen?, h]
theorem row_put (cur : Array Value) (L M : List UInt8) (n : Nat) (hsz : cur.size = n) (hL : ∀ x, x < L.length → cur[x]? = some (.int .u8 (((L.getD x 0).toNat : Nat) : Int))) (hfit : L.length + M.length ≤ n) :
    (cur.toList.take L.length ++ M.map (fun b => Value.int .u8 ((b.toNat : Nat) : Int)) ++ cur.toList.drop (L.length + M.length)).toArray.size = n ∧
    ∀ x, x < (L ++ M).length → (cur.toList.take L.length ++ M.map (fun b => Value.int .u8 ((b.toNat : Nat) : Int)) ++ cur.toList.drop (L.length + M.length)).toArray[x]? = some (.int .u8 ((((L ++ M).getD x 0).toNat : Nat) : Int)) := by
  have hl : cur.toList.length = n := by rw [Array.length_toList]; exact hsz
  refine ⟨by rw [List.size_toArray]; simp only [List.length_append, List.length_take, List.length_map, List.length_drop]; omega, fun x hx => ?_⟩
  rw [List.length_append] at hx
  rw [List.getElem?_toArray, List.append_assoc]
  by_cases h : x < L.length
  · rw [List.getElem?_append_left (by rw [List.length_take]; omega), List.getElem?_take_of_lt h, Array.getElem?_toList, hL x h, List.getD_eq_getElem?_getD, List.getD_eq_getElem?_getD, List.getElem?_append_left h]
  · have h2 : (cur.toList.take L.length).length = L.length := by rw [List.length_take]; omega
    have hm : x - L.length < M.length := by omega
    rw [List.getElem?_append_right (by omega), h2, List.getElem?_append_left (by rw [List.length_map]; exact hm), List.getElem?_map, List.getD_eq_getElem?_getD, List.getElem?_append_right (by omega), List.getElem?_eq_getElem hm]
    rfl
theorem row_set (cur : Array Value) (L : List UInt8) (c : UInt8) (n : Nat) (hsz : cur.size = n) (hL : ∀ x, x < L.length → cur[x]? = some (.int .u8 (((L.getD x 0).toNat : Nat) : Int))) (hfit : L.length + 1 ≤ n) :
    (cur.setIfInBounds L.length (.int .u8 ((c.toNat : Nat) : Int))).size = n ∧ ∀ x, x < (L ++ [c]).length → (cur.setIfInBounds L.length (.int .u8 ((c.toNat : Nat) : Int)))[x]? = some (.int .u8 ((((L ++ [c]).getD x 0).toNat : Nat) : Int)) := by
  refine ⟨by rw [Array.size_setIfInBounds]; exact hsz, fun x hx => ?_⟩
  rw [List.length_append, List.length_cons, List.length_nil] at hx
  by_cases h : x < L.length
  · rw [Array.getElem?_setIfInBounds_ne (by omega), hL x h, List.getD_eq_getElem?_getD, List.getD_eq_getElem?_getD, List.getElem?_append_left h]
  · obtain rfl : x = L.length := by omega
    rw [Array.getElem?_setIfInBounds_self_of_lt (by omega), List.getD_eq_getElem?_getD, List.getElem?_append_right (Nat.le_refl _), Nat.sub_self]
    rfl
theorem blkSet {w : World} {g : Nat} {t : TypeId} {cs : Array Value} (h : w.heap[g]? = some (.cells cs t (0, 0))) (i : Nat) (u : Value) : (w.setCell ⟨g, i, none⟩ u).heap[g]? = some (.cells (cs.setIfInBounds i u) t (0, 0)) := by
  simp [World.setCell, Array.getElem?_modify, h]
theorem neq_nil (w : World) : (binOp .neq 55 (.slice none 0 0) (.slice none 0 0)).run Tryd.prog w = .ok (.bool false) w := by kernel_rfl
theorem neq_some (q : Addr) (n c : Nat) (w : World) : (binOp .neq 55 (.slice (some q) n c) (.slice none 0 0)).run Tryd.prog w = .ok (.bool true) w := by kernel_rfl
set_option maxHeartbeats 4000000 in
set_option maxRecDepth 100000 in
theorem bsr_short (p : Nat) (s : ByteArray) (w : World) (hT : RT p w) (hs : s.size < 24) :
    Calls Tryd.prog 157 #[.pointer (some ⟨p, 0, none⟩), .string s] w fun e w' => e = .returned (.string ⟨(parT s.data.toList).toArray⟩) ∧ Below w.heap.size w w' := by
  have HT := Aside0.mk hT
  obtain ⟨t, cap, a1, a2, a3, a4, a5⟩ := hT.list
  clear hT
  have hd : decide (24 ≤ s.size) = false := decide_eq_false (by omega)
  go_enter Tryd.func157, Tryd.ntmps157
  go_wp2
  go_loopg [5, 6, 10] s.size (fun g v5 v6 v10 wr => ∃ i : Nat, v10 = .int .i64 i ∧ i ≤ s.size ∧ Aside0 (s.size ≤ i + g) ∧ v5 = .int .i64 (((parT (s.data.toList.take i)).length + (s.size - i) : Nat) : Int) ∧ v6 = .bool ((s.data.toList.take i).any isS) ∧ wr = w)
  case atStart => exact ⟨0, rfl, by omega, ⟨by omega⟩, by simp [parT], by simp, rfl⟩
  case round =>
    obtain ⟨i, rfl, hi, HI, rfl, rfl, rfl⟩ := hrel
    by_cases hlt : i < s.size
    · have hd2 : decide (i < s.size) = true := decide_eq_true hlt
      obtain ⟨c, hc⟩ : ∃ c : UInt8, s[i] = c := ⟨_, rfl⟩
      have hc2 : c.toNat < 256 := c.toNat_lt
      have HTk : Aside0 (s.data.toList.take (i + 1) = s.data.toList.take i ++ [c]) := ⟨by
        rw [List.take_succ_eq_append_getElem (by simpa using hlt)]; rw [← hc]; rfl⟩
      have HPL := Aside0.mk (parB_len c)
      cases gk with
      | zero => exfalso; have := HI.out; omega
      | succ g =>
      by_cases hsp : isS c = true
      · have hsc : c.toNat = 94 ∨ c.toNat = 10 ∨ c.toNat = 34 := by
          unfold isS at hsp
          rw [Bool.or_eq_true, Bool.or_eq_true, beq_iff_eq, beq_iff_eq, beq_iff_eq] at hsp
          rcases hsp with (h | h) | h
          · rw [h]; exact .inl rfl
          · rw [h]; exact .inr (.inl rfl)
          · rw [h]; exact .inr (.inr rfl)
        obtain ⟨q, qc, b1, b2, b3, b4⟩ := HT.out.subs c.toNat hsc
        have nq := neq_some
        go_wp2
        go_roundg g
        case measure => have := HI.out; omega
        case rel =>
          have h1 := parT_le (s.data.toList.take i)
          have h2 : (s.data.toList.take i).length = i := by rw [List.length_take, Array.length_toList]; have e : s.data.size = s.size := rfl; omega
          rw [h2] at h1
          refine ⟨i + 1, by first | rfl | (go_num; done) | (congr 1; omega), by omega, ⟨by have := HI.out; omega⟩, ?_, ?_, rfl⟩
          · rw [HTk.out, parT_snoc, List.length_append, HPL.out, if_pos hsp]; congr 1; unfold wrap64; omega
          · rw [HTk.out, List.any_append, List.any_cons, hsp]; simp
      · have hcell : wr.cell? ⟨p, c.toNat, none⟩ = some (.slice none 0 0) := by
          rw [Bool.not_eq_true] at hsp
          unfold isS at hsp
          simp only [Bool.or_eq_false_iff, beq_eq_false_iff_ne] at hsp
          have ne : ∀ n : Nat, n < 256 → c ≠ n.toUInt8 → c.toNat ≠ n := fun n hn h e => h (by apply UInt8.toNat_inj.1; rw [e]; simp; omega)
          exact HT.out.nils c.toNat hc2 (ne 94 (by omega) hsp.1.1) (ne 10 (by omega) hsp.1.2) (ne 34 (by omega) hsp.2)
        have nq := neq_nil
        go_wp2
        go_roundg g
        case measure => have := HI.out; omega
        case rel =>
          rw [Bool.not_eq_true] at hsp
          refine ⟨i + 1, by first | rfl | (go_num; done) | (congr 1; omega), by omega, ⟨by have := HI.out; omega⟩, ?_, ?_, rfl⟩
          · rw [HTk.out, parT_snoc, List.length_append, HPL.out, if_neg (by rw [hsp]; simp)]; congr 1; omega
          · rw [HTk.out, List.any_append, List.any_cons, hsp]; simp
    · have hd2 : decide (i < s.size) = false := decide_eq_false hlt
      have hil : i = s.size := by omega
      subst hil
      have htk : s.data.toList.take s.size = s.data.toList := List.take_of_length_le (by simp)
      rw [htk, Nat.sub_self, Nat.add_zero]
      by_cases hany : s.data.toList.any isS = true
      · rw [hany]
        have hpl := parT_le s.data.toList
        have e : s.data.toList.length = s.size := by simp
        rw [e] at hpl
        have HPA : Aside0 (∃ n, (parT s.data.toList).length = n ∧ n ≤ 100) := ⟨⟨_, rfl, by omega⟩⟩
        obtain ⟨n, hn, hn2⟩ := HPA.out
        rw [hn]
        clear hpl
        obtain ⟨ti, I⟩ := i8
        have hmk := run_make (P := Tryd.prog) wr 55 5 ti (.int .u8 0) Tryd.underlying55 I.hi I.hz .i64 .i64 (n : Int) (n : Int) (by omega) (by omega) (by rw [I.hb]; omega) (by omega)
        rw [Int.toNat_natCast, I.hs, Nat.mul_one] at hmk
        go_wp2
        have HN := Aside0.mk hn
        clear hn hmk htk hany HI HPA
        have hal := (Below.refl wr.heap.size wr).alloc (Nat.le_refl _) (.cells (madeCells #[.int .u8 0] n) 5)
        have hblk : (wr.alloc (.cells (madeCells #[.int .u8 0] n) 5)).heap[wr.heap.size]? = some (.cells (madeCells #[.int .u8 0] n) 5 (0, 0)) := by simp only [World.alloc, Array.getElem?_push_size]
        have HBL := Aside0.mk hblk
        have HAL := Aside0.mk hal
        clear hblk hal
        obtain ⟨G, hGd⟩ : ∃ G, G = wr.heap.size := ⟨_, rfl⟩
        rw [← hGd] at HBL ⊢
        have HGE := Aside0.mk hGd
        clear hGd
        go_loopg [13, 14] s.size (fun g v13 v14 wr2 => ∃ (k : Nat) (cur : Array Value), v14 = .int .i64 k ∧ v13 = .int .i64 ((parT (s.data.toList.take k)).length : Nat) ∧ k ≤ s.size ∧ Aside0 (s.size ≤ k + g) ∧ Aside0 (wr2.heap[G]? = some (.cells cur 5 (0, 0)) ∧ cur.size = n ∧ ∀ x, x < (parT (s.data.toList.take k)).length → cur[x]? = some (.int .u8 ((((parT (s.data.toList.take k)).getD x 0).toNat : Nat) : Int))) ∧ Aside0 (Below wr.heap.size wr wr2))
        case atStart => exact ⟨0, _, rfl, by simp [parT], by omega, ⟨by omega⟩, ⟨HBL.out, by simp [madeCells], fun x hx => by simp [parT] at hx⟩, HAL⟩
        case round =>
          obtain ⟨k, cur, rfl, rfl, hk, HK, HC, HB⟩ := hrel
          by_cases hlt2 : k < s.size
          · have hd3 : decide (k < s.size) = true := decide_eq_true hlt2
            obtain ⟨c, hc⟩ : ∃ c : UInt8, s[k] = c := ⟨_, rfl⟩
            have hc2 : c.toNat < 256 := c.toNat_lt
            have HTk : Aside0 (s.data.toList.take (k + 1) = s.data.toList.take k ++ [c]) := ⟨by
              rw [List.take_succ_eq_append_getElem (by simpa using hlt2)]; rw [← hc]; rfl⟩
            have HTn := HT.out.under HB.out
            have HLn : Aside0 ((parT (s.data.toList.take (k + 1))).length ≤ n) := ⟨by
              have h1 : parT s.data.toList = parT (s.data.toList.take (k + 1)) ++ parT (s.data.toList.drop (k + 1)) := by
                unfold parT; rw [← List.flatMap_append, List.take_append_drop]
              rw [← HN.out, h1, List.length_append]; omega⟩
            have hLn := HLn.out
            rw [HTk.out, parT_snoc, List.length_append, parB_len] at hLn
            cases gk with
            | zero => exfalso; have := HK.out; omega
            | succ g =>
            obtain ⟨J, hJ⟩ : ∃ J, (parT (s.data.toList.take k)).length = J := ⟨_, rfl⟩
            rw [hJ] at hLn HC ⊢
            have HJ := Aside0.mk hJ
            clear hJ
            by_cases hsp : isS c = true
            · have hsc : c.toNat = 94 ∨ c.toNat = 10 ∨ c.toNat = 34 := by
                unfold isS at hsp
                rw [Bool.or_eq_true, Bool.or_eq_true, beq_iff_eq, beq_iff_eq, beq_iff_eq] at hsp
                rcases hsp with (h | h) | h
                · rw [h]; exact .inl rfl
                · rw [h]; exact .inr (.inl rfl)
                · rw [h]; exact .inr (.inr rfl)
              obtain ⟨q, qc, b1, b2, b3, b4⟩ := HTn.subs c.toNat hsc
              have nq := neq_some
              rw [if_pos hsp] at hLn
              have hJn : decide (J ≤ n) = true := decide_eq_true (by omega)
              obtain ⟨ti2, I2⟩ := i8
              have hcp := run_copy_row (P := Tryd.prog) wr.drew 55 55 3 5 G J (n - J) (n - J) ⟨q, 0, none⟩ 2 qc cur 5 [.int .u8 94, .int .u8 (subB c.toNat)] Tryd.underlying55 (by rw [I2.hi]; simp [I2.hs]) HC.out.1 (by simp only [List.length_cons, List.length_nil]; show 2 = min 2 (n - J); omega)
                (fun j v hj => by
                  have hjl : j < 2 := (List.getElem?_eq_some_iff.1 hj).1
                  have hj2 : j = 0 ∨ j = 1 := by omega
                  rcases hj2 with rfl | rfl
                  · have : v = .int .u8 94 := by simpa using hj.symm
                    rw [this, World.cell?_drew]; exact b3
                  · have : v = .int .u8 (subB c.toNat) := by simpa using hj.symm
                    rw [this, World.cell?_drew]; exact b4)
                (by have := HC.out.2.1; simp only [List.length_cons, List.length_nil]; omega) (by intro v hv; simp only [List.mem_cons, List.not_mem_nil, or_false] at hv; rcases hv with rfl | rfl <;> rfl)
              simp only [List.length_cons, List.length_nil] at hcp
              have HC3 := HC.out
              have hpb : ([.int .u8 94, .int .u8 (subB c.toNat)] : List Value) = (parB c).map (fun b => Value.int .u8 ((b.toNat : Nat) : Int)) := by
                rcases hsc with h | h | h
                · have hc9 : c = 94 := by apply UInt8.toNat_inj.1; rw [h]; rfl
                  subst hc9; rfl
                · have hc9 : c = 10 := by apply UInt8.toNat_inj.1; rw [h]; rfl
                  subst hc9; rfl
                · have hc9 : c = 34 := by apply UInt8.toNat_inj.1; rw [h]; rfl
                  subst hc9; rfl
              have HPB := Aside0.mk hpb
              clear hpb hsc
              go_wp2
              go_region
              go_wp2
              go_roundg g
              case measure => have := HK.out; omega
              case rel =>
                have hlen2 : (parB c).length = 2 := by rw [parB_len, if_pos hsp]
                have hJ2 := HJ.out
                have hrp := row_put cur (parT (s.data.toList.take k)) (parB c) n HC3.2.1 (fun x hx => HC3.2.2 x (by rw [← hJ2]; exact hx)) (by rw [hJ2, hlen2]; omega)
                rw [hJ2, hlen2, ← HPB.out] at hrp
                simp only [List.append_assoc, List.cons_append, List.nil_append] at hrp
                refine ⟨k + 1, _, by first | rfl | (go_num; done) | (congr 1; omega), by rw [HTk.out, parT_snoc, List.length_append, hJ2, hlen2]; rfl, by omega, ⟨by have := HK.out; omega⟩, ⟨setRow_heap _ _ _ _ _ _ HC3.1, hrp.1, fun x hx => ?_⟩, ⟨below_setRow (below_drew HB.out) (by have := HGE.out; omega) _⟩⟩
                rw [HTk.out, parT_snoc] at hx ⊢
                exact hrp.2 x hx
            · have hcell : wr.cell? ⟨p, c.toNat, none⟩ = some (.slice none 0 0) := by
                rw [Bool.not_eq_true] at hsp
                unfold isS at hsp
                simp only [Bool.or_eq_false_iff, beq_eq_false_iff_ne] at hsp
                have ne : ∀ n : Nat, n < 256 → c ≠ n.toUInt8 → c.toNat ≠ n := fun n hn h e => h (by apply UInt8.toNat_inj.1; rw [e]; simp; omega)
                exact HTn.nils c.toNat hc2 (ne 94 (by omega) hsp.1.1) (ne 10 (by omega) hsp.1.2) (ne 34 (by omega) hsp.2)
              have nq := neq_nil
              rw [if_neg hsp] at hLn
              have hJn : decide (J < n) = true := decide_eq_true (by omega)
              have hold : wr.cell? ⟨G, J, none⟩ = some (cur[J]'(by have := HC.out.2.1; omega)) := by
                rw [cell_blk HC.out.1, Array.getElem?_eq_getElem]
              have hfz := froz_blk HC.out.1 J
              go_wp2
              go_roundg g
              case measure => have := HK.out; omega
              case rel =>
                have hlen1 : parB c = [c] := parB_no c (by rw [Bool.not_eq_true] at hsp; exact hsp)
                have hJ2 := HJ.out
                have hrs := row_set cur (parT (s.data.toList.take k)) c n HC.out.2.1 (fun x hx => HC.out.2.2 x (by rw [← hJ2]; exact hx)) (by rw [hJ2]; omega)
                rw [hJ2] at hrs
                refine ⟨k + 1, _, by first | rfl | (go_num; done) | (congr 1; omega), by rw [HTk.out, parT_snoc, hlen1, List.length_append, hJ2]; rfl, by omega, ⟨by have := HK.out; omega⟩, ⟨blkSet HC.out.1 _ _, hrs.1, fun x hx => ?_⟩, ⟨Below.setCell HB.out (by have := HGE.out; show _ ≤ G; omega) _⟩⟩
                rw [HTk.out, parT_snoc, hlen1] at hx ⊢
                exact hrs.2 x hx
          · have hd3 : decide (k < s.size) = false := decide_eq_false hlt2
            have hks : k = s.size := by omega
            subst hks
            have htk2 : s.data.toList.take s.size = s.data.toList := List.take_of_length_le (by simp)
            rw [htk2] at HC ⊢
            have hcv := run_convert_bytes_back (P := Tryd.prog) wr 55 9 5 ⟨G, 0, none⟩ n (parT s.data.toList) Tryd.underlying55 Tryd.underlying5 Tryd.underlying9 (fun j hj => by
              have ha : (⟨G, 0, none⟩ : Addr).add j = ⟨G, j, none⟩ := by
                unfold Addr.add
                split
                · rename_i h8; subst h8; rfl
                · simp
              rw [ha, cell_blk HC.out.1, HC.out.2.2 j hj, List.getD_eq_getElem?_getD, List.getElem?_eq_getElem hj]; rfl)
            rw [HN.out] at hcv
            go_wp2
            go_ret
            exact ⟨rfl, HB.out⟩
      · rw [Bool.not_eq_true] at hany
        rw [hany]
        have hno := parT_no _ hany
        go_wp2
        go_ret
        exact ⟨by rw [hno, ba_of]; rfl, Below.refl _ _⟩
end Go.Proofs.YtknmbalhbecdhaaDoor.Print
