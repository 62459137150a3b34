/- status.class, walked. -/
import Derived.Test.YtdlfnhobnijdjaaDoorSRows
set_option linter.unusedVariables false
set_option linter.unusedSimpArgs false
namespace Go.Proofs.YtdlfnhobnijdjaaDoor.Sts
open Go.RowKit Go.Extern.Stop Go.Stop Go.Extern

theorem clsFrom_at (i : Nat) (hi : i < 9) (e : Int) : clsFrom (9 - i) i e = if (ers i).contains e = true then cls i else clsFrom (9 - (i + 1)) (i + 1) e := by
  obtain ⟨k, hk⟩ : ∃ k, 9 - i = k + 1 := ⟨9 - i - 1, by omega⟩
  rw [hk, clsFrom, show 9 - (i + 1) = k by omega]
set_option maxHeartbeats 4000000 in
set_option maxRecDepth 100000 in
theorem class_walk (T : TypeId) (v : Value) (e : Int) (w : World)
    (HI : ∀ (b : Int) (w' : World), Below w.heap.size w w' → Calls Tryd.prog 14 #[.iface T v, .iface 26 (.int .i64 b), .bool true] w' fun ev w2 => ev = .returned (.bool (e == b)) ∧ w2 = w') :
    Calls Tryd.prog 8 #[.iface T v] w fun ev w' => ev = .returned (.string (clsOf e)) ∧ Below w.heap.size w w' := by
  have HIS := Aside0.mk HI
  clear HI
  go_enter Tryd.func8, Tryd.ntmps8
  go_wp2_with (go_at_call 10; refine (rows_walk _).mono ?_; rintro e1 w1 ⟨b, rfl, hR, hB⟩)
  have HR := Aside0.mk hR
  have HB1 := Aside0.mk hB
  clear hR hB
  go_loopg [9] 9 (fun g v9 wr => ∃ i : Nat, v9 = .int .i64 i ∧ i ≤ 9 ∧ Aside0 (9 ≤ i + g) ∧ Aside0 (clsFrom (9 - i) i e = clsOf e) ∧ Aside0 (∀ i, i < 9 → RowAt b i wr) ∧ Aside0 (Below w.heap.size w wr))
  case atStart => exact ⟨0, rfl, by omega, ⟨by omega⟩, ⟨rfl⟩, HR, HB1⟩
  case round =>
    obtain ⟨i, rfl, hi, HI9, HC, HRR, HB⟩ := hrel
    by_cases hlt : i < 9
    · have hd : decide ((i : Int) < 9) = true := decide_eq_true (by omega)
      obtain ⟨hn, c, hl, hcl, hcells⟩ := HRR.out i hlt
      have hlen : (ers i).length ≤ 4 := by unfold ers; split <;> simp
      cases gk with
      | zero => exfalso; have := HI9.out; omega
      | succ g1 =>
      go_wp2
      have hcell2 : ∀ j, j < (ers i).length → (wr.alloc (.cells #[.string (cls i), .slice (some ⟨c, 0, none⟩) (ers i).length (ers i).length] 39)).cell? ⟨c, j, none⟩ = some (.int .i64 ((ers i).getD j 0)) := fun j hj => by rw [World.cell?_alloc_lt _ _ _ hcl]; exact hcells j hj
      have hfr : (wr.alloc (.cells #[.string (cls i), .slice (some ⟨c, 0, none⟩) (ers i).length (ers i).length] 39)).cell? ⟨wr.heap.size, 0, none⟩ = some (.string (cls i)) := by rw [World.cell?_alloc_at _ _ _ _ rfl]; rfl
      have hal := (Below.refl wr.heap.size wr).alloc (Nat.le_refl _) (.cells #[.string (cls i), .slice (some ⟨c, 0, none⟩) (ers i).length (ers i).length] 39)
      generalize wr.alloc (.cells #[.string (cls i), .slice (some ⟨c, 0, none⟩) (ers i).length (ers i).length] 39) = WR at hcell2 hfr hal ⊢
      have HRR2 : Aside0 (∀ k, k < 9 → RowAt b k WR) := ⟨fun k hk => (HRR.out k hk).below hal⟩
      have HB2 : Aside0 (Below w.heap.size w WR) := ⟨HB.out.trans (hal.mono HB.out.size)⟩
      have HCE := Aside0.mk hcell2
      have HFR := Aside0.mk hfr
      clear hcell2 hfr hal hcells hcl hl hn
      generalize wr.heap.size = rb at HFR ⊢
      go_loopg [16] (ers i).length (fun g v16 wi => ∃ j : Nat, v16 = .int .i64 j ∧ j ≤ (ers i).length ∧ Aside0 ((ers i).length ≤ j + g) ∧ Aside0 (((ers i).take j).contains e = false) ∧ Aside0 (Below WR.heap.size WR wi))
      case atStart => exact ⟨0, rfl, by omega, ⟨by omega⟩, ⟨rfl⟩, ⟨Below.refl _ _⟩⟩
      case round =>
        obtain ⟨j, rfl, hj, HJ, HN, HW⟩ := hrel
        have HBI : Aside0 (Below w.heap.size w wr) := ⟨HB2.out.trans (HW.out.mono HB2.out.size)⟩
        by_cases hjl : j < (ers i).length
        · have hd2 : decide (j < (ers i).length) = true := decide_eq_true hjl
          have hx : wr.cell? ⟨c, j, none⟩ = some (.int .i64 ((ers i).getD j 0)) := (HW.out.cell (cell_lt (HCE.out j hjl))).trans (HCE.out j hjl)
          have hfr : wr.cell? ⟨rb, 0, none⟩ = some (.string (cls i)) := (HW.out.cell (cell_lt HFR.out)).trans HFR.out
          have hg : (ers i).getD j 0 = (ers i)[j] := by rw [List.getD_eq_getElem?_getD, List.getElem?_eq_getElem hjl]; rfl
          have HT : Aside0 (((ers i).take (j + 1)).contains e = (e == (ers i).getD j 0)) := ⟨by
            rw [List.take_succ_eq_append_getElem hjl, List.contains_append, HN.out, Bool.false_or, hg]; simp [List.contains_cons]; rfl⟩
          have HX : Aside0 ((e == (ers i).getD j 0) = true → (ers i).contains e = true) := ⟨fun he => by
            rw [beq_iff_eq] at he; rw [List.contains_iff_mem, he, hg]; exact List.getElem_mem hjl⟩
          clear hg
          generalize (ers i).getD j 0 = x at *
          cases he : (e == x) with
          | true =>
            have hcls : clsOf e = cls i := by rw [← HC.out, clsFrom_at i hlt, if_pos (HX.out he)]
            go_wp2_with (go_at_call 11; refine (Is_of T v x true _ (by have := HIS.out x _ HBI.out; rw [he] at this; exact this)).mono ?_; rintro e1 w1 ⟨rfl, rfl⟩)
            go_ret
            exact ⟨by rw [hcls]; rfl, HBI.out⟩
          | false =>
            cases gk with
            | zero => exfalso; have := HJ.out; omega
            | succ g2 =>
            go_wp2_with (go_at_call 11; refine (Is_of T v x false _ (by have := HIS.out x _ HBI.out; rw [he] at this; exact this)).mono ?_; rintro e1 w1 ⟨rfl, rfl⟩)
            go_roundg g2
            case measure => have := HJ.out; omega
            case rel => exact ⟨j + 1, by first | (go_num; done) | (congr 1; unfold wrap64; omega), by omega, ⟨by have := HJ.out; omega⟩, ⟨by rw [HT.out, he]⟩, HW⟩
        · have hd2 : decide (j < (ers i).length) = false := decide_eq_false hjl
          have hno : (ers i).contains e = false := by have := HN.out; rwa [List.take_of_length_le (by omega)] at this
          have hnx : clsFrom (9 - (i + 1)) (i + 1) e = clsOf e := by rw [← HC.out, clsFrom_at i hlt, hno, if_neg (by simp)]
          go_wp2
          go_roundg g1
          case measure => have := HI9.out; omega
          case rel => exact ⟨i + 1, by first | (go_num; done) | (congr 1; unfold wrap64; omega), by omega, ⟨by have := HI9.out; omega⟩, ⟨hnx⟩, ⟨fun k hk => (HRR2.out k hk).below HW.out⟩, HBI⟩
    · have hd : decide ((i : Int) < 9) = false := decide_eq_false (by omega)
      go_wp2
      go_ret
      have h9 : i = 9 := by omega
      subst h9
      exact ⟨by rw [← HC.out]; rfl, HB.out⟩
end Go.Proofs.YtdlfnhobnijdjaaDoor.Sts
