/- strings.byteStringReplacer as escape.Param makes it, walked. (texts of 24 bytes and more) -/
import Derived.Test.YtknmbalhbecdhaaDoorRepl
import Derived.Test.YtknmbalhbecdhaaDoorXBase
import Derived.WalkKit
import Derived.Deep.LoopGhost
import Derived.Laws.CopyRow
import Derived.Laws.CopyOwn
import Derived.Laws.MakeOwn
import Derived.Deep.QuietTactic
import Derived.Deep.RegionWith
set_option linter.unusedVariables false
set_option linter.unusedSimpArgs false
namespace Go.Proofs.YtknmbalhbecdhaaDoor.Print
open Go.RowKit Go.Proofs.YtknmbalhbecdhaaDoorW.PrintWords Go.Proofs.YtknmbalhbecdhaaDoorW.PrintLast Go.Proofs.YtknmbalhbecdhaaDoorW.PrintMore

def seqC : Nat → UInt8
  | 0 => 34
  | 1 => 10
  | _ => 94
def cntS : Nat → List UInt8 → Nat
  | 0, _ => 0
  | i + 1, l => cntS i l + Lib.countByte l (seqC i)
theorem cntS_le : ∀ (i : Nat) (l : List UInt8), cntS i l ≤ i * l.length
  | 0, l => by simp [cntS]
  | i + 1, l => by
    have h1 := cntS_le i l
    have h2 : Lib.countByte l (seqC i) ≤ l.length := List.count_le_length
    rw [cntS, Nat.add_mul, Nat.one_mul]; omega
theorem cnt_cons (c : UInt8) (t : List UInt8) (x : UInt8) : Lib.countByte (c :: t) x = Lib.countByte t x + if c = x then 1 else 0 := by
  unfold Lib.countByte
  rw [List.count_cons]
  by_cases h : c = x
  · simp [h]
  · simp [h]
theorem cnt3 (l : List UInt8) : cntS 3 l = Lib.countByte l 34 + Lib.countByte l 10 + Lib.countByte l 94 := by
  simp only [cntS, seqC]; omega
theorem cnt3_cons (c : UInt8) (t : List UInt8) : cntS 3 (c :: t) = cntS 3 t + if isS c = true then 1 else 0 := by
  rw [cnt3, cnt3, cnt_cons, cnt_cons, cnt_cons]
  unfold isS
  by_cases h1 : c = 94
  · subst h1; simp; omega
  by_cases h2 : c = 10
  · subst h2; simp; omega
  by_cases h3 : c = 34
  · subst h3; simp; omega
  simp [h1, h2, h3]
theorem par_cnt : ∀ (l : List UInt8), (parT l).length = l.length + cntS 3 l
  | [] => by rw [cnt3]; rfl
  | c :: t => by
    rw [parT_cons, List.length_append, par_cnt t, parB_len, cnt3_cons, List.length_cons]
    split <;> omega
theorem any_cnt : ∀ (l : List UInt8), l.any isS = decide (0 < cntS 3 l)
  | [] => by rw [cnt3]; rfl
  | c :: t => by
    rw [List.any_cons, any_cnt t, cnt3_cons]
    cases h : isS c
    · simp
    · simp
set_option maxHeartbeats 4000000 in
set_option maxRecDepth 100000 in
theorem bsr_long (p : Nat) (s : ByteArray) (w : World) (hT : RT p w) (hs24 : ¬ s.size < 24) (hs : s.size ≤ 2000000000) :
    Calls Tryd.prog 157 #[.pointer (some ⟨p, 0, none⟩), .string s] w fun e w' => e = .returned (.string ⟨(parT s.data.toList).toArray⟩) ∧ Below w.heap.size w w' := by
  have HT := Aside0.mk hT
  obtain ⟨t, cap, a1, a2, a3, a4, a5⟩ := hT.list
  clear hT
  have hd : decide (24 ≤ s.size) = true := decide_eq_true (by omega)
  have hdI : decide ((24 : Int) ≤ (s.size : Int)) = true := decide_eq_true (by omega)
  go_enter Tryd.func157, Tryd.ntmps157
  go_wp2
  go_loopg [5, 6, 32] 3 (fun g v5 v6 v32 wr => ∃ (i : Nat) (N : Int) (B : Bool), v32 = .int .i64 i ∧ i ≤ 3 ∧ Aside0 (3 ≤ i + g) ∧ v5 = .int .i64 N ∧ v6 = .bool B ∧ Aside0 (N = ((s.size + cntS i s.data.toList : Nat) : Int)) ∧ Aside0 (B = decide (0 < cntS i s.data.toList)) ∧ Aside0 (Below w.heap.size w wr))
  case atStart => exact ⟨0, _, _, rfl, by omega, ⟨by omega⟩, rfl, rfl, ⟨by simp [cntS]⟩, ⟨by simp [cntS]⟩, ⟨Below.refl _ _⟩⟩
  case round =>
    obtain ⟨i, N, B, rfl, hi, HI, rfl, rfl, HNN, HBB, HW⟩ := hrel
    have a1 := (HW.out.cell (cellLt a1)).trans a1
    have a3 := (HW.out.cell (cellLt a3)).trans a3
    have a4 := (HW.out.cell (cellLt a4)).trans a4
    have a5 := (HW.out.cell (cellLt a5)).trans a5
    have HT := Aside0.mk (HT.out.under HW.out)
    by_cases hlt : i < 3
    · cases gk with
      | zero => exfalso; have := HI.out; omega
      | succ g =>
      have nq := neq_some
      have e0 : s.data.toList.length = s.size := by simp
      have hd2 : decide (i < 3) = true := decide_eq_true hlt
      have hcell : wr.cell? ⟨t, i, none⟩ = some (.string ⟨#[seqC i]⟩) := by
        have hi3 : i = 0 ∨ i = 1 ∨ i = 2 := by omega
        rcases hi3 with rfl | rfl | rfl
        · exact a3
        · exact a4
        · exact a5
      have hsc : (seqC i).toNat = 94 ∨ (seqC i).toNat = 10 ∨ (seqC i).toNat = 34 := by
        have hi3 : i = 0 ∨ i = 1 ∨ i = 2 := by omega
        rcases hi3 with rfl | rfl | rfl
        · exact .inr (.inr rfl)
        · exact .inr (.inl rfl)
        · exact .inl rfl
      obtain ⟨q, qc, b1, b2, b3, b4⟩ := HT.out.subs (seqC i).toNat hsc
      have HS : Aside0 (cntS (i + 1) s.data.toList = cntS i s.data.toList + Lib.countByte s.data.toList (seqC i)) := ⟨rfl⟩
      have hle1 := cntS_le (i + 1) s.data.toList
      have hle0 := cntS_le i s.data.toList
      rw [HS.out] at hle1
      have h3 : i ≤ 2 := by omega
      obtain ⟨C, hCd⟩ : ∃ C, Lib.countByte s.data.toList (seqC i) = C := ⟨_, rfl⟩
      rw [hCd] at HS hle1
      have HCd := Aside0.mk hCd
      clear hCd
      obtain ⟨D, hDd⟩ : ∃ D, cntS i s.data.toList = D := ⟨_, rfl⟩
      rw [hDd] at HS hle1 hle0 HNN HBB
      clear hDd
      have hle3 : D + C ≤ 3 * s.size := Nat.le_trans hle1 (by rw [e0]; exact Nat.mul_le_mul_right _ (by omega))
      have hx0 : (⟨#[seqC i]⟩ : ByteArray)[0]'(by show 0 < 1; omega) = seqC i := rfl
      have h256 : (seqC i).toNat < 256 := (seqC i).toNat_lt
      have hd256 : decide ((seqC i).toNat < 256) = true := decide_eq_true h256
      clear a3 a4 a5 hsc
      by_cases hC0 : C = 0
      · subst hC0
        have hb : (((0 : Nat) : Int) != 0) = false := rfl
        go_wp2_with (go_at_call 159; refine (Tryd.strings_Count_one _ _ _).mono ?_; rintro e w' ⟨rfl, hw⟩; rw [hw, HCd.out]; clear hw)
        go_roundg g
        case measure => have := HI.out; omega
        case rel => exact ⟨i + 1, _, _, by first | rfl | (go_num; done) | (congr 1; omega), by omega, ⟨by have := HI.out; omega⟩, rfl, rfl, ⟨by rw [HS.out, HNN.out]; rfl⟩, ⟨by rw [HS.out, HBB.out, Nat.add_zero]⟩, HW⟩
      · have hb : (((C : Nat) : Int) != 0) = true := bne_iff_ne.2 (by omega)
        go_wp2_with (go_at_call 159; refine (Tryd.strings_Count_one _ _ _).mono ?_; rintro e w' ⟨rfl, hw⟩; rw [hw, HCd.out]; clear hw)
        go_region
        go_wp2
        go_roundg g
        case measure => have := HI.out; omega
        case rel => exact ⟨i + 1, _, _, by first | rfl | (go_num; done) | (congr 1; omega), by omega, ⟨by have := HI.out; omega⟩, rfl, rfl, ⟨by rw [HS.out]; have := HNN.out; first | omega | (unfold wrap64; omega) | (simp only [wrap64]; omega)⟩, ⟨by rw [HS.out, decide_eq_true (by omega)]⟩, ⟨below_drew HW.out⟩⟩
    · have hi3 : i = 3 := by omega
      subst hi3
      have hcn := par_cnt s.data.toList
      have hcy := any_cnt s.data.toList
      have e : s.data.toList.length = s.size := by simp
      rw [e] at hcn
      have hN := HNN.out
      have hB := HBB.out
      rw [← hcn] at hN
      rw [← hcy] at hB
      subst hN
      subst hB
      clear HNN HBB
      by_cases hany : s.data.toList.any isS = true
      · rw [hany]
        have hpl := parT_le s.data.toList
        have e : s.data.toList.length = s.size := by simp
        rw [e] at hpl
        have HPA : Aside0 (∃ n, (parT s.data.toList).length = n ∧ n ≤ 4000000000) := ⟨⟨_, rfl, by omega⟩⟩
        obtain ⟨n, hn, hn2⟩ := HPA.out
        rw [hn]
        clear hpl
        obtain ⟨ti, I⟩ := i8
        have hmk := run_make (P := Tryd.prog) wr 55 5 ti (.int .u8 0) Tryd.underlying55 I.hi I.hz .i64 .i64 (n : Int) (n : Int) (by omega) (by omega) (by rw [I.hb]; omega) (by omega)
        rw [Int.toNat_natCast, I.hs, Nat.mul_one] at hmk
        go_wp2
        have HN := Aside0.mk hn
        clear hn hmk hany HI HPA hcn hcy
        have hal := (Below.refl wr.heap.size wr).alloc (Nat.le_refl _) (.cells (madeCells #[.int .u8 0] n) 5)
        have hblk : (wr.alloc (.cells (madeCells #[.int .u8 0] n) 5)).heap[wr.heap.size]? = some (.cells (madeCells #[.int .u8 0] n) 5 (0, 0)) := by simp only [World.alloc, Array.getElem?_push_size]
        have HBL := Aside0.mk hblk
        have HAL := Aside0.mk hal
        clear hblk hal
        obtain ⟨G, hGd⟩ : ∃ G, G = wr.heap.size := ⟨_, rfl⟩
        rw [← hGd] at HBL ⊢
        have HGE := Aside0.mk hGd
        clear hGd
        go_loopg [13, 14] s.size (fun g v13 v14 wr2 => ∃ (k : Nat) (cur : Array Value), v14 = .int .i64 k ∧ v13 = .int .i64 ((parT (s.data.toList.take k)).length : Nat) ∧ k ≤ s.size ∧ Aside0 (s.size ≤ k + g) ∧ Aside0 (wr2.heap[G]? = some (.cells cur 5 (0, 0)) ∧ cur.size = n ∧ ∀ x, x < (parT (s.data.toList.take k)).length → cur[x]? = some (.int .u8 ((((parT (s.data.toList.take k)).getD x 0).toNat : Nat) : Int))) ∧ Aside0 (Below wr.heap.size wr wr2))
        case atStart => exact ⟨0, _, rfl, by simp [parT], by omega, ⟨by omega⟩, ⟨HBL.out, by simp [madeCells], fun x hx => by simp [parT] at hx⟩, HAL⟩
        case round =>
          obtain ⟨k, cur, rfl, rfl, hk, HK, HC, HB⟩ := hrel
          by_cases hlt2 : k < s.size
          · have hd3 : decide (k < s.size) = true := decide_eq_true hlt2
            obtain ⟨c, hc⟩ : ∃ c : UInt8, s[k] = c := ⟨_, rfl⟩
            have hc2 : c.toNat < 256 := c.toNat_lt
            have HTk : Aside0 (s.data.toList.take (k + 1) = s.data.toList.take k ++ [c]) := ⟨by
              rw [List.take_succ_eq_append_getElem (by simpa using hlt2)]; rw [← hc]; rfl⟩
            have HTn := HT.out.under HB.out
            have HLn : Aside0 ((parT (s.data.toList.take (k + 1))).length ≤ n) := ⟨by
              have h1 : parT s.data.toList = parT (s.data.toList.take (k + 1)) ++ parT (s.data.toList.drop (k + 1)) := by
                unfold parT; rw [← List.flatMap_append, List.take_append_drop]
              rw [← HN.out, h1, List.length_append]; omega⟩
            have hLn := HLn.out
            rw [HTk.out, parT_snoc, List.length_append, parB_len] at hLn
            cases gk with
            | zero => exfalso; have := HK.out; omega
            | succ g =>
            obtain ⟨J, hJ⟩ : ∃ J, (parT (s.data.toList.take k)).length = J := ⟨_, rfl⟩
            rw [hJ] at hLn HC ⊢
            have HJ := Aside0.mk hJ
            clear hJ
            by_cases hsp : isS c = true
            · have hsc : c.toNat = 94 ∨ c.toNat = 10 ∨ c.toNat = 34 := by
                unfold isS at hsp
                rw [Bool.or_eq_true, Bool.or_eq_true, beq_iff_eq, beq_iff_eq, beq_iff_eq] at hsp
                rcases hsp with (h | h) | h
                · rw [h]; exact .inl rfl
                · rw [h]; exact .inr (.inl rfl)
                · rw [h]; exact .inr (.inr rfl)
              obtain ⟨q, qc, b1, b2, b3, b4⟩ := HTn.subs c.toNat hsc
              have nq := neq_some
              rw [if_pos hsp] at hLn
              have hJn : decide (J ≤ n) = true := decide_eq_true (by omega)
              obtain ⟨ti2, I2⟩ := i8
              have hcp := run_copy_row (P := Tryd.prog) wr.drew 55 55 3 5 G J (n - J) (n - J) ⟨q, 0, none⟩ 2 qc cur 5 [.int .u8 94, .int .u8 (subB c.toNat)] Tryd.underlying55 (by rw [I2.hi]; simp [I2.hs]) HC.out.1 (by simp only [List.length_cons, List.length_nil]; show 2 = min 2 (n - J); omega)
                (fun j v hj => by
                  have hjl : j < 2 := (List.getElem?_eq_some_iff.1 hj).1
                  have hj2 : j = 0 ∨ j = 1 := by omega
                  rcases hj2 with rfl | rfl
                  · have : v = .int .u8 94 := by simpa using hj.symm
                    rw [this, World.cell?_drew]; exact b3
                  · have : v = .int .u8 (subB c.toNat) := by simpa using hj.symm
                    rw [this, World.cell?_drew]; exact b4)
                (by have := HC.out.2.1; simp only [List.length_cons, List.length_nil]; omega) (by intro v hv; simp only [List.mem_cons, List.not_mem_nil, or_false] at hv; rcases hv with rfl | rfl <;> rfl)
              simp only [List.length_cons, List.length_nil] at hcp
              have HC3 := HC.out
              have hpb : ([.int .u8 94, .int .u8 (subB c.toNat)] : List Value) = (parB c).map (fun b => Value.int .u8 ((b.toNat : Nat) : Int)) := by
                rcases hsc with h | h | h
                · have hc9 : c = 94 := by apply UInt8.toNat_inj.1; rw [h]; rfl
                  subst hc9; rfl
                · have hc9 : c = 10 := by apply UInt8.toNat_inj.1; rw [h]; rfl
                  subst hc9; rfl
                · have hc9 : c = 34 := by apply UInt8.toNat_inj.1; rw [h]; rfl
                  subst hc9; rfl
              have HPB := Aside0.mk hpb
              clear hpb hsc
              go_wp2
              go_region
              go_wp2
              go_roundg g
              case measure => have := HK.out; omega
              case rel =>
                have hlen2 : (parB c).length = 2 := by rw [parB_len, if_pos hsp]
                have hJ2 := HJ.out
                have hrp := row_put cur (parT (s.data.toList.take k)) (parB c) n HC3.2.1 (fun x hx => HC3.2.2 x (by rw [← hJ2]; exact hx)) (by rw [hJ2, hlen2]; omega)
                rw [hJ2, hlen2, ← HPB.out] at hrp
                simp only [List.append_assoc, List.cons_append, List.nil_append] at hrp
                refine ⟨k + 1, _, by first | rfl | (go_num; done) | (congr 1; omega), by rw [HTk.out, parT_snoc, List.length_append, hJ2, hlen2]; rfl, by omega, ⟨by have := HK.out; omega⟩, ⟨setRow_heap _ _ _ _ _ _ HC3.1, hrp.1, fun x hx => ?_⟩, ⟨below_setRow (below_drew HB.out) (by have := HGE.out; omega) _⟩⟩
                rw [HTk.out, parT_snoc] at hx ⊢
                exact hrp.2 x hx
            · have hcell : wr.cell? ⟨p, c.toNat, none⟩ = some (.slice none 0 0) := by
                rw [Bool.not_eq_true] at hsp
                unfold isS at hsp
                simp only [Bool.or_eq_false_iff, beq_eq_false_iff_ne] at hsp
                have ne : ∀ n : Nat, n < 256 → c ≠ n.toUInt8 → c.toNat ≠ n := fun n hn h e => h (by apply UInt8.toNat_inj.1; rw [e]; simp; omega)
                exact HTn.nils c.toNat hc2 (ne 94 (by omega) hsp.1.1) (ne 10 (by omega) hsp.1.2) (ne 34 (by omega) hsp.2)
              have nq := neq_nil
              rw [if_neg hsp] at hLn
              have hJn : decide (J < n) = true := decide_eq_true (by omega)
              have hold : wr.cell? ⟨G, J, none⟩ = some (cur[J]'(by have := HC.out.2.1; omega)) := by
                rw [cell_blk HC.out.1, Array.getElem?_eq_getElem]
              have hfz := froz_blk HC.out.1 J
              go_wp2
              go_roundg g
              case measure => have := HK.out; omega
              case rel =>
                have hlen1 : parB c = [c] := parB_no c (by rw [Bool.not_eq_true] at hsp; exact hsp)
                have hJ2 := HJ.out
                have hrs := row_set cur (parT (s.data.toList.take k)) c n HC.out.2.1 (fun x hx => HC.out.2.2 x (by rw [← hJ2]; exact hx)) (by rw [hJ2]; omega)
                rw [hJ2] at hrs
                refine ⟨k + 1, _, by first | rfl | (go_num; done) | (congr 1; omega), by rw [HTk.out, parT_snoc, hlen1, List.length_append, hJ2]; rfl, by omega, ⟨by have := HK.out; omega⟩, ⟨blkSet HC.out.1 _ _, hrs.1, fun x hx => ?_⟩, ⟨Below.setCell HB.out (by have := HGE.out; show _ ≤ G; omega) _⟩⟩
                rw [HTk.out, parT_snoc, hlen1] at hx ⊢
                exact hrs.2 x hx
          · have hd3 : decide (k < s.size) = false := decide_eq_false hlt2
            have hks : k = s.size := by omega
            subst hks
            have htk2 : s.data.toList.take s.size = s.data.toList := List.take_of_length_le (by simp)
            rw [htk2] at HC ⊢
            have hcv := run_convert_bytes_back (P := Tryd.prog) wr 55 9 5 ⟨G, 0, none⟩ n (parT s.data.toList) Tryd.underlying55 Tryd.underlying5 Tryd.underlying9 (fun j hj => by
              have ha : (⟨G, 0, none⟩ : Addr).add j = ⟨G, j, none⟩ := by
                unfold Addr.add
                split
                · rename_i h8; subst h8; rfl
                · simp
              rw [ha, cell_blk HC.out.1, HC.out.2.2 j hj, List.getD_eq_getElem?_getD, List.getElem?_eq_getElem hj]; rfl)
            rw [HN.out] at hcv
            go_wp2
            go_ret
            exact ⟨rfl, HW.out.trans (HB.out.mono HW.out.size)⟩
      · rw [Bool.not_eq_true] at hany
        rw [hany]
        have hno := parT_no _ hany
        go_wp2
        go_ret
        exact ⟨by rw [hno, ba_of]; rfl, HW.out⟩
theorem bsr_walk (p : Nat) (s : ByteArray) (w : World) (hT : RT p w) (hs : s.size ≤ 2000000000) :
    Calls Tryd.prog 157 #[.pointer (some ⟨p, 0, none⟩), .string s] w fun e w' => e = .returned (.string ⟨(parT s.data.toList).toArray⟩) ∧ Below w.heap.size w w' := by
  by_cases h : s.size < 24
  · exact bsr_short p s w hT h
  · exact bsr_long p s w hT h hs
end Go.Proofs.YtknmbalhbecdhaaDoor.Print
