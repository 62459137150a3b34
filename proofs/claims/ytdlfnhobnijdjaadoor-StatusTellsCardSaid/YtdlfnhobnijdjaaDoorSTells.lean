/- The law StatusTells, walked. -/
import Derived.Test.YtdlfnhobnijdjaaDoorSTell
import Derived.Test.YtdlfnhobnijdjaaDoorSLaw
set_option linter.unusedVariables false
set_option linter.unusedSimpArgs false
namespace Go.Proofs.YtdlfnhobnijdjaaDoor.Sts
open Go.RowKit Go.Extern.Stop Go.Stop Go.Extern

attribute [local go_sem] mn2_int mn_two
theorem ba_self (s : ByteArray) : (s == s) = true := by show (s.data == s.data) = true; exact beq_self_eq_true _
theorem plc_step (s : ByteArray) (M : List ByteArray) : (s ++ ⟨#[58, 32]⟩) ++ (⟨(plc M).toArray⟩ : ByteArray) = ⟨(plc (s :: M)).toArray⟩ := by
  apply ByteArray.ext
  apply Array.toList_inj.1
  rw [app_list, app_list, plc]
set_option maxHeartbeats 4000000 in
set_option maxRecDepth 1000000 in
theorem tells_walk (e : Int) (a : Option Addr) (len cap : Nat) (zs : List ByteArray) (w : World) (hg : ErrT w) (hS : Strs w a len cap zs) (hmax : len ≤ 9223372036854775807) :
    Calls Tryd.prog 3 #[.int .i64 e, .slice a len cap] w fun ev w' => ev = .returned (.bool true) ∧ Below w.heap.size w w' := by
  have HS := Aside0.mk hS
  have HG := Aside0.mk hg
  clear hS hg
  by_cases hbig : len > 200
  · have hd : decide (200 < len) = true := decide_eq_true hbig
    go_enter Tryd.func3, Tryd.ntmps3
    go_wp2_with (go_at_call 4; refine (awake_walk _).mono ?_; rintro e1 w1 ⟨rfl, hB⟩)
    go_ret
    have h1 := ‹Below w.heap.size w _›
    exact ⟨rfl, h1.trans (hB.mono h1.size)⟩
  have hd : decide (200 < len) = false := decide_eq_false hbig
  go_enter Tryd.func3, Tryd.ntmps3
  go_wp2_with (go_at_call 4; refine (awake_walk _).mono ?_; rintro e1 w1 ⟨rfl, hB⟩)
  clear hd
  go_loopg [20] len (fun g v20 wr => ∃ i : Nat, v20 = .int .i64 i ∧ i ≤ len ∧ Aside0 (len ≤ i + g) ∧ Aside0 (∀ z ∈ zs.take i, z.size ≤ 200) ∧ Aside0 (Below w.heap.size w wr))
  case atStart => exact ⟨0, rfl, by omega, ⟨by omega⟩, ⟨fun z hz => by simp at hz⟩, ⟨hB⟩⟩
  case round =>
    obtain ⟨i, rfl, hi, HI, HZ, HB⟩ := hrel
    by_cases hlt : i < len
    · obtain ⟨x, rfl, hcell0⟩ := HS.out.lt i hlt
      have hcell := (HB.out.cell (cell_lt hcell0)).trans hcell0
      clear hcell0
      have hd : decide (i < len) = true := decide_eq_true hlt
      have HT : Aside0 (zs.take (i + 1) = zs.take i ++ [zs.getD i ByteArray.empty]) := ⟨by
        have hl : i < zs.length := by rw [HS.out.len_eq]; omega
        rw [List.take_succ_eq_append_getElem hl, List.getD_eq_getElem?_getD, List.getElem?_eq_getElem hl]; rfl⟩
      generalize zs.getD i ByteArray.empty = s at *
      by_cases hs : s.size > 200
      · have hd2 : decide (200 < s.size) = true := decide_eq_true hs
        go_wp2
        go_ret
        exact ⟨rfl, HB.out⟩
      · have hd2 : decide (200 < s.size) = false := decide_eq_false hs
        cases gk with
        | zero => exfalso; have := HI.out; omega
        | succ g =>
        go_wp2
        go_roundg g
        case measure => have := HI.out; omega
        case rel =>
          refine ⟨i + 1, by first | (go_num; done) | (congr 1; unfold wrap64; omega), by omega, ⟨by have := HI.out; omega⟩, ⟨fun z hz => ?_⟩, HB⟩
          rw [HT.out] at hz
          rcases List.mem_append.1 hz with hz | hz
          · exact HZ.out z hz
          · rw [List.mem_singleton.1 hz]; omega
    · have hd : decide (i < len) = false := decide_eq_false hlt
      have hil : i = len := by omega
      subst hil
      have hzs : ∀ z ∈ zs, z.size ≤ 200 := fun z hz => HZ.out z (by rw [List.take_of_length_le (by rw [HS.out.len_eq]; exact Nat.le_refl _)]; exact hz)
      have HS2 : Aside0 (Strs wr a i cap zs) := ⟨⟨HS.out.len_eq, HS.out.cap_le, HS.out.none_eq, fun x hx j hj => by
        have := HS.out.cell x hx j hj
        exact (HB.out.cell (cell_lt this)).trans this⟩⟩
      have hG2 := HG.out.under HB.out
      have hBs := HB.out.size
      by_cases he : e = 0
      · subst he
        have hb1 : ((⟨#[50, 46, 48]⟩ : ByteArray) == ⟨#[50, 46, 48]⟩) = true := ba_self _
        have hb2 : ((⟨#[]⟩ : ByteArray) == ⟨#[]⟩) = true := ba_self _
        go_wp2_with (go_at_call 5; refine (Tell_zero a i cap _).mono ?_; rintro e1 w1 ⟨rfl, rfl⟩)
        go_ret
        exact ⟨rfl, HB.out⟩
      · have h0 : (e == 0) = false := beq_eq_false_iff_ne.2 he
        obtain ⟨n, hn⟩ : ∃ n, min i 60 = n := ⟨_, rfl⟩
        have hmin : (if (60 : Int) < (i : Int) then (60 : Int) else (i : Int)) = (n : Int) := by split <;> omega
        have HZS := Aside0.mk hzs
        clear hzs
        go_wp2_with (go_at_call 5; refine (Tell_walk e he a i cap zs _ hG2 HS2.out (by omega) HZS.out).mono ?_; rintro e1 w1 ⟨rfl, hB1⟩; rw [hn])
        have HB1 : Aside0 (Below w.heap.size w w1) := ⟨HB.out.trans (hB1.mono hBs)⟩
        clear hB1
        go_loopg [8, 47] n (fun g v8 v47 wr => ∃ j : Nat, v47 = .int .i64 j ∧ v8 = .string ⟨(plc (zs.take j).reverse).toArray⟩ ∧ j ≤ n ∧ Aside0 (n ≤ j + g) ∧ Aside0 (Below w.heap.size w wr))
        case atStart => exact ⟨0, rfl, rfl, by omega, ⟨by omega⟩, HB1⟩
        case round =>
          obtain ⟨j, rfl, rfl, hj, HJ, HBJ⟩ := hrel
          by_cases hjn : j < n
          · obtain ⟨x, rfl, hcell0⟩ := HS.out.lt j (by omega)
            have hcell := (HBJ.out.cell (cell_lt hcell0)).trans hcell0
            clear hcell0
            have hd3 : decide (j < n) = true := decide_eq_true hjn
            have hl : j < zs.length := by rw [HS.out.len_eq]; omega
            have hsj : (zs.getD j ByteArray.empty).size ≤ 200 := by
              rw [List.getD_eq_getElem?_getD, List.getElem?_eq_getElem hl]; exact HZS.out _ (List.getElem_mem hl)
            have hpl := plc_len (zs.take j).reverse (fun z hz => HZS.out z (List.mem_of_mem_take (List.mem_reverse.1 hz)))
            rw [List.length_reverse, List.length_take] at hpl
            have HL : Aside0 ((zs.take (j + 1)).reverse = zs.getD j ByteArray.empty :: (zs.take j).reverse) := ⟨by
              rw [List.take_succ_eq_append_getElem hl, List.reverse_append, List.getD_eq_getElem?_getD, List.getElem?_eq_getElem hl]; rfl⟩
            have hps : (⟨(plc (zs.take j).reverse).toArray⟩ : ByteArray).size = (plc (zs.take j).reverse).length := by show (plc (zs.take j).reverse).toArray.size = _; rw [List.size_toArray]
            generalize zs.getD j ByteArray.empty = s at *
            have HST := Aside0.mk (plc_step s (zs.take j).reverse)
            generalize (⟨(plc (zs.take j).reverse).toArray⟩ : ByteArray) = out at *
            have c1 : (9223372036854775807 < s.size + 2) = False := eq_false (by omega)
            have c2 : (9223372036854775807 < s.size + 2 + out.size) = False := eq_false (by omega)
            clear hps hpl hsj hl
            cases gk with
            | zero => exfalso; have := HJ.out; omega
            | succ g =>
            go_wp2
            go_roundg g
            case measure => have := HJ.out; omega
            case rel =>
              exact ⟨j + 1, by first | (go_num; done) | (congr 1; unfold wrap64; omega), by rw [HL.out, ← HST.out], by omega, ⟨by have := HJ.out; omega⟩, HBJ⟩
          · have hd3 : decide (j < n) = false := decide_eq_false hjn
            have hjn2 : j = n := by omega
            subst hjn2
            have hb1 : (clsOf e == clsOf e) = true := ba_self _
            have hb2 : ((⟨(plc (zs.take j).reverse).toArray⟩ : ByteArray) == ⟨(plc (zs.take j).reverse).toArray⟩) = true := ba_self _
            generalize (⟨(plc (zs.take j).reverse).toArray⟩ : ByteArray) = out at *
            go_wp2_with (go_at_call 6; refine (ref_walk e _).mono ?_; rintro e1 w1 ⟨rfl, rfl⟩)
            go_ret
            exact ⟨by first | rfl | simp, HBJ.out⟩
end Go.Proofs.YtdlfnhobnijdjaaDoor.Sts
