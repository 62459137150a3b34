/- line.Equal: walked by hand (slices.EqualFunc over parameters, slices.Equal over their values). -/
import Derived.Test.YtknmbalhbecdhaaDoorPrint0
import Derived.WalkKit
import Derived.Deep.LoopGhost
import Derived.Deep.QuietTactic
import Derived.BigQuiet
import Derived.Outline
set_option linter.unusedVariables false
set_option linter.unusedSimpArgs false
namespace Go.Proofs.YtknmbalhbecdhaaDoor.Print
open Go.RowKit Go.Proofs.YtknmbalhbecdhaaDoorW.PrintWords Go.Proofs.YtknmbalhbecdhaaDoorW.PrintLast Go.Proofs.YtknmbalhbecdhaaDoorW.PrintMore

theorem addr_plain {w : World} {ad : Addr} {v : Value} (h : w.cell? (ad.add 0) = some v) : ∃ b o, ad = ⟨b, o, none⟩ := by
  obtain ⟨b, o, sp⟩ := ad
  cases sp with
  | none => exact ⟨b, o, rfl⟩
  | some z =>
    exfalso
    unfold Addr.add at h
    rw [if_pos rfl] at h
    simp only [World.cell?] at h; split at h <;> simp at h
theorem add_plainO (b o j : Nat) : (⟨b, o, none⟩ : Addr).add j = ⟨b, o + j, none⟩ := by
  unfold Addr.add
  split
  · rename_i h8; subst h8; rfl
  · rfl
theorem ba_toList {a b : ByteArray} (h : a.toList = b.toList) : a = b := by
  have : a.data.toList = b.data.toList := by rw [← Go.ByteArray.toList_eq a, ← Go.ByteArray.toList_eq b]; exact h
  cases a; cases b; simp at this; rw [this]
theorem cellLt0 {w : World} {a : Addr} {v : Value} (h : w.cell? a = some v) : a.block < w.heap.size := by
  rcases Nat.lt_or_ge a.block w.heap.size with h9 | h9
  · exact h9
  · simp [World.cell?, Array.getElem?_eq_none h9] at h
/-- A row of strings, by its block. -/
theorem strs_row {w : World} {A : Option Addr} {xs : List ByteArray} (h : Kd.C Kd.string w A xs.length xs) (hn : xs ≠ []) : ∃ b o, A = some ⟨b, o, none⟩ ∧ ∀ j, j < xs.length → w.cell? ⟨b, o + j, none⟩ = some (.string (xs.getD j ByteArray.empty)) := by
  have hl : 0 < xs.length := by cases xs with
    | nil => exact absurd rfl hn
    | cons _ _ => simp
  obtain ⟨_, _, hcell⟩ := Kd.reads_of_C (d := ByteArray.empty) (h1 := fun _ => rfl) h
  obtain ⟨ad, hA, hcl⟩ := hcell hl
  obtain ⟨b, o, rfl⟩ := addr_plain (hcl 0 hl)
  exact ⟨b, o, hA, fun j hj => by rw [← add_plainO]; exact hcl j hj⟩
theorem strs_eq (A0 : Option Addr) (c0 : Nat) (l0 : List ByteArray) (A1 : Option Addr) (c1 : Nat) (l1 : List ByteArray) (w : World) (h0 : Kd.C Kd.string w A0 l0.length l0) (h1 : Kd.C Kd.string w A1 l1.length l1) :
    Calls Tryd.prog 60 #[.slice A0 l0.length c0, .slice A1 l1.length c1] w fun e w' => e = .returned (.bool (decide (l0 = l1))) ∧ Below w.heap.size w w' := by
  by_cases hl : l0.length = l1.length
  · cases l0 with
    | nil =>
      have : l1 = [] := by cases l1 with
        | nil => rfl
        | cons _ _ => simp at hl
      subst this
      exact (Tryd.slices_Equal_string_empty A0 A1 c0 0 c1 w (by omega)).mono fun e w' ⟨he, hw⟩ => ⟨he, hw ▸ Below.refl _ _⟩
    | cons x t =>
      have hn1 : l1 ≠ [] := by rintro rfl; simp at hl
      obtain ⟨b0, o0, rfl, hc0⟩ := strs_row h0 (by simp)
      obtain ⟨b1, o1, rfl, hc1⟩ := strs_row h1 hn1
      refine (Tryd.slices_Equal_string b0 o0 _ c0 b1 o1 _ c1 (x :: t) l1 w (Nat.le_refl _) (Nat.le_refl _) h0.2.1 h1.2.1 hc0 hc1).mono ?_
      rintro e w' ⟨he, q, rfl⟩
      rw [List.take_length, List.take_length] at he
      exact ⟨he, pw_below_drewN (Below.refl _ _) q⟩
  · refine (Tryd.slices_Equal_string_lens A0 A1 _ c0 _ c1 w hl).mono ?_
    rintro e w' ⟨he, rfl⟩
    exact ⟨by rw [he, decide_eq_false (fun h => hl (by rw [h]))], Below.refl _ _⟩
/-- A parameter of a row, by its block. -/
theorem par_at {w : World} {A : Option Addr} {l : List S83} (h : Kd.C k83 w A l.length l) (i : Nat) (hi : i < l.length) : ∃ b o A1 c1, A = some ⟨b, o, none⟩ ∧ w.cell? ⟨b, o + i * 2, none⟩ = some (.string (l.getD i z83).f0) ∧ w.cell? ⟨b, o + i * 2 + 1, none⟩ = some (.slice A1 (l.getD i z83).f1.length c1) ∧ (l.getD i z83).f1.length ≤ c1 ∧ Kd.C Kd.string w A1 (l.getD i z83).f1.length (l.getD i z83).f1 := by
  obtain ⟨ad, A1, c1, hA, h0, h1, hc, hC⟩ := at_T83 h i (by omega) (by omega)
  obtain ⟨ad', _, _, hA', h0', _⟩ := at_T83 h 0 (by omega) (by omega)
  obtain rfl : ad = ad' := by rw [hA] at hA'; exact Option.some.inj hA'
  obtain ⟨b, o, rfl⟩ := addr_plain (show w.cell? (ad.add 0) = _ from h0')
  refine ⟨b, o, A1, c1, hA, ?_, ?_, hc, hC⟩
  · rw [add_plainO] at h0; exact h0
  · rw [add_plainO] at h1; exact h1
def eqP (p q : S83) : Bool := decide (p.f0 = q.f0) && decide (p.f1 = q.f1)
theorem eqP_walk (p q : S83) (A0 : Option Addr) (c0 : Nat) (A1 : Option Addr) (c1 : Nat) (w : World) (h0 : Kd.C Kd.string w A0 p.f1.length p.f1) (h1 : Kd.C Kd.string w A1 q.f1.length q.f1) :
    Calls Tryd.prog 59 #[.agg #[.string p.f0, .slice A0 p.f1.length c0], .agg #[.string q.f0, .slice A1 q.f1.length c1]] w fun e w' => e = .returned (.bool (eqP p q)) ∧ Below w.heap.size w w' := by
  obtain ⟨n0, l0⟩ := p
  obtain ⟨n1, l1⟩ := q
  have H0 := Aside0.mk h0
  have H1 := Aside0.mk h1
  clear h0 h1
  dsimp only at H0 H1 ⊢
  by_cases hn : n0 = n1
  · subst hn
    have hb : (n0.toList == n0.toList) = true := beq_self_eq_true _
    have hP : eqP ⟨n0, l0⟩ ⟨n0, l1⟩ = decide (l0 = l1) := by unfold eqP; simp
    rw [hP]
    clear hP
    go_enter Tryd.func59, Tryd.ntmps59
    go_wp2_with fail
    go_at_call 60
    refine (strs_eq A0 c0 l0 A1 c1 l1 _ (Kd.C_below H0.out (below_alloc (below_alloc (Below.refl _ _) _) _)) (Kd.C_below H1.out (below_alloc (below_alloc (Below.refl _ _) _) _))).mono ?_
    rintro e w2 ⟨rfl, hB⟩
    have HB := Aside0.mk hB
    clear hB
    obtain ⟨b, hbd⟩ : ∃ b, b = decide (l0 = l1) := ⟨_, rfl⟩
    rw [← hbd]
    have HBD := Aside0.mk hbd
    clear hbd hb
    go_wp2_with fail
    go_ret
    exact ⟨by rw [← HBD.out]; rfl, (below_alloc (below_alloc (Below.refl _ _) _) _).trans (HB.out.mono (by simp; omega))⟩
  · have hb2 : ¬ n0.toList = n1.toList := fun h => hn (ba_toList h)
    have hb : (n0.toList == n1.toList) = false := by rw [beq_eq_false_iff_ne]; exact hb2
    have hP : eqP ⟨n0, l0⟩ ⟨n1, l1⟩ = false := by unfold eqP; rw [decide_eq_false hn]; rfl
    rw [hP]
    clear hP
    go_enter Tryd.func59, Tryd.ntmps59
    go_wp2_with fail
    go_ret
    exact ⟨rfl, below_alloc (below_alloc (Below.refl _ _) _) _⟩
def eqPs : List S83 → List S83 → Bool
  | [], [] => true
  | p :: s, q :: t => eqP p q && eqPs s t
  | _, _ => false
theorem eqPs_len : ∀ (a b : List S83), a.length ≠ b.length → eqPs a b = false
  | [], [], h => absurd rfl h
  | [], _ :: _, _ => rfl
  | _ :: _, [], _ => rfl
  | _ :: s, _ :: t, h => by
    unfold eqPs
    rw [eqPs_len s t (fun e => h (by simp [e])), Bool.and_false]
theorem eqPs_at (a b : List S83) (i : Nat) (ha : i < a.length) (hb : i < b.length) : eqPs (a.drop i) (b.drop i) = (eqP (a.getD i z83) (b.getD i z83) && eqPs (a.drop (i + 1)) (b.drop (i + 1))) := by
  rw [List.drop_eq_getElem_cons ha, List.drop_eq_getElem_cons hb, List.getD_eq_getElem?_getD, List.getD_eq_getElem?_getD, List.getElem?_eq_getElem ha, List.getElem?_eq_getElem hb]
  rfl
set_option maxHeartbeats 4000000 in
set_option maxRecDepth 100000 in
theorem eqPs_walk (A0 : Option Addr) (c0 : Nat) (l0 : List S83) (A1 : Option Addr) (c1 : Nat) (l1 : List S83) (w : World) (h0 : Kd.C k83 w A0 l0.length l0) (h1 : Kd.C k83 w A1 l1.length l1) :
    Calls Tryd.prog 58 #[.slice A0 l0.length c0, .slice A1 l1.length c1, .func (.func 59) #[] #[]] w fun e w' => e = .returned (.bool (eqPs l0 l1)) ∧ Below w.heap.size w w' := by
  have hm := h0.2.1
  have H0 := Aside0.mk h0
  have H1 := Aside0.mk h1
  clear h0 h1
  by_cases hl : l0.length = l1.length
  · obtain ⟨n, hn⟩ : ∃ n, n = l0.length := ⟨_, rfl⟩
    have hn1 : n = l1.length := by omega
    have HN := Aside0.mk hn
    have HN1 := Aside0.mk hn1
    rw [← hn] at hm ⊢
    rw [← hn1]
    clear hl hn hn1
    have hnot : ∀ (x : Bool) (w : World), (Op.unary .not (.bool x)).run Tryd.prog w = .ok (.bool (!x)) w := fun _ _ => rfl
    go_enter Tryd.func58, Tryd.ntmps58
    go_wp2_with fail
    go_loopg [7, 8, 9, 17] n (fun g v7 v8 v9 v17 wr => ∃ i : Nat, v17 = .int .i64 i ∧ i ≤ n ∧ Aside0 (n ≤ i + g) ∧ Aside0 (Below w.heap.size w wr) ∧ Aside0 (eqPs l0 l1 = eqPs (l0.drop i) (l1.drop i)))
    case atStart => exact ⟨0, rfl, by omega, ⟨by omega⟩, ⟨Below.refl _ _⟩, ⟨rfl⟩⟩
    case round =>
      obtain ⟨i, rfl, hi, HG, HB, HE⟩ := hrel
      by_cases hlt : i < n
      · cases gk with
        | zero => exfalso; have := HG.out; omega
        | succ g =>
        obtain ⟨b0, o0, A2, c2, e0, p0, p1, hc2, hC2⟩ := par_at (Kd.C_below H0.out HB.out) i (by have := HN.out; omega)
        obtain ⟨b1, o1, A3, c3, e1, q0, q1, hc3, hC3⟩ := par_at (Kd.C_below H1.out HB.out) i (by have := HN1.out; omega)
        subst e0 e1
        have hE := eqPs_at l0 l1 i (by have := HN.out; omega) (by have := HN1.out; omega)
        obtain ⟨p, hp⟩ : ∃ p, p = l0.getD i z83 := ⟨_, rfl⟩
        obtain ⟨q, hq⟩ : ∃ q, q = l1.getD i z83 := ⟨_, rfl⟩
        rw [← hp] at p0 p1 hc2 hC2 hE
        rw [← hq] at q0 q1 hc3 hC3 hE
        have HX := Aside0.mk (And.intro hC2 (And.intro hC3 hE))
        have hb0 := cellLt0 p0
        have hb1 := cellLt0 q0
        clear hC2 hC3 hc2 hc3 hp hq hE
        have HQ := eqP_walk p q A2 c2 A3 c3
        have HQQ := Aside0.mk HQ
        clear HQ
        obtain ⟨r, hr⟩ : ∃ r, r = eqP p q := ⟨_, rfl⟩
        rw [← hr] at HQQ HX
        clear hr
        go_wp2_with fail
        go_at_call 59
        refine (HQQ.out _ (Kd.C_below HX.out.1 (below_alloc (below_alloc (Below.refl _ _) _) _)) (Kd.C_below HX.out.2.1 (below_alloc (below_alloc (Below.refl _ _) _) _))).mono ?_
        rintro e w2 ⟨rfl, hB⟩
        have HB2 := Aside0.mk (HB.out.trans (((below_alloc (below_alloc (Below.refl _ _) _) _).trans (hB.mono (by simp; omega))).mono HB.out.size))
        clear hB
        cases r with
        | true =>
          go_wp2_with fail
          go_roundg g
          case measure => have := HG.out; omega
          case rel => exact ⟨i + 1, by first | rfl | (go_num; done), by omega, ⟨by have := HG.out; omega⟩, HB2, ⟨by rw [HE.out, HX.out.2.2, Bool.true_and]⟩⟩
        | false =>
          go_wp2_with fail
          go_ret
          exact ⟨by rw [HE.out, HX.out.2.2, Bool.false_and]; rfl, HB2.out⟩
      · have hin : i = n := by omega
        subst hin
        go_wp2_with fail
        go_ret
        refine ⟨?_, HB.out⟩
        rw [HE.out, List.drop_eq_nil_of_le (by have := HN.out; omega), List.drop_eq_nil_of_le (by have := HN1.out; omega)]
        rfl
  · have he := eqPs_len l0 l1 hl
    have HE := Aside0.mk he
    clear he
    have hl1 : decide ((l0.length : Int) = (l1.length : Int)) = false := decide_eq_false (by omega)
    have hl2 : ¬ (l0.length : Int) = (l1.length : Int) := by omega
    go_enter Tryd.func58, Tryd.ntmps58
    go_wp2_with fail
    go_ret
    exact ⟨by rw [HE.out]; rfl, Below.refl _ _⟩
def eqL (a : ByteArray) (l : List S83) (v : ByteArray) (b : ByteArray) (m : List S83) (u : ByteArray) : Bool := decide (a = b) && decide (v = u) && eqPs l m
theorem beqS_no {a b : ByteArray} (h : ¬ a = b) : (a.toList == b.toList) = false := by rw [beq_eq_false_iff_ne]; exact fun e => h (ba_toList e)
def line_Equal.f (a0_0 : ByteArray) (l0_1 : List S83) (a0_2 : ByteArray) (a1_0 : ByteArray) (l1_1 : List S83) (a1_2 : ByteArray) : Option Bool := some (eqL a0_0 l0_1 a0_2 a1_0 l1_1 a1_2)
theorem line_Equal.calls (a0_0 : ByteArray) (A0_1 : Option Addr) (c0_1 : Nat) (l0_1 : List S83) (a0_2 : ByteArray) (a1_0 : ByteArray) (A1_1 : Option Addr) (c1_1 : Nat) (l1_1 : List S83) (a1_2 : ByteArray) (r : Bool) (w : World) (hG : GG w) (hr0_1 : Kd.C k83 w A0_1 l0_1.length l0_1) (hc0_1 : l0_1.length ≤ c0_1) (hr1_1 : Kd.C k83 w A1_1 l1_1.length l1_1) (hc1_1 : l1_1.length ≤ c1_1) (h : line_Equal.f a0_0 l0_1 a0_2 a1_0 l1_1 a1_2 = some r) :
    Calls Tryd.prog 34 #[.agg #[.string a0_0, .slice A0_1 l0_1.length c0_1, .string a0_2], .agg #[.string a1_0, .slice A1_1 l1_1.length c1_1, .string a1_2]] w fun e w' => e = .returned (.bool r) ∧ Below w.heap.size w w' := by
  obtain rfl := Option.some.inj h
  have H0 := Aside0.mk hr0_1
  have H1 := Aside0.mk hr1_1
  clear h hG hr0_1 hr1_1 hc0_1 hc1_1
  by_cases hn : a0_0 = a1_0
  · subst hn
    by_cases hv : a0_2 = a1_2
    · subst hv
      have hP : eqL a0_0 l0_1 a0_2 a0_0 l1_1 a0_2 = eqPs l0_1 l1_1 := by unfold eqL; simp
      rw [hP]
      clear hP
      have hb : (a0_0.toList == a0_0.toList) = true := beq_self_eq_true _
      have hb2 : (a0_2.toList == a0_2.toList) = true := beq_self_eq_true _
      go_enter Tryd.func34, Tryd.ntmps34
      go_wp2_with fail
      go_at_call 58
      refine (eqPs_walk A0_1 c0_1 l0_1 A1_1 c1_1 l1_1 _ (Kd.C_below H0.out (below_alloc (below_alloc (Below.refl _ _) _) _)) (Kd.C_below H1.out (below_alloc (below_alloc (Below.refl _ _) _) _))).mono ?_
      rintro e w2 ⟨rfl, hB⟩
      have HB := Aside0.mk hB
      clear hB
      obtain ⟨b, hbd⟩ : ∃ b, b = eqPs l0_1 l1_1 := ⟨_, rfl⟩
      rw [← hbd]
      have HBD := Aside0.mk hbd
      clear hbd hb hb2
      go_wp2_with fail
      go_ret
      exact ⟨by rw [← HBD.out]; rfl, (below_alloc (below_alloc (Below.refl _ _) _) _).trans (HB.out.mono (by simp; omega))⟩
    · have hP : eqL a0_0 l0_1 a0_2 a0_0 l1_1 a1_2 = false := by unfold eqL; rw [decide_eq_false hv]; simp
      rw [hP]
      clear hP
      have hb : (a0_0.toList == a0_0.toList) = true := beq_self_eq_true _
      have hb2 := beqS_no hv
      have hb3 : ¬ a0_2.toList = a1_2.toList := fun e => hv (ba_toList e)
      go_enter Tryd.func34, Tryd.ntmps34
      go_wp2_with fail
      go_ret
      exact ⟨rfl, below_alloc (below_alloc (Below.refl _ _) _) _⟩
  · have hP : eqL a0_0 l0_1 a0_2 a1_0 l1_1 a1_2 = false := by unfold eqL; rw [decide_eq_false hn]; rfl
    rw [hP]
    clear hP
    have hb2 := beqS_no hn
    have hb3 : ¬ a0_0.toList = a1_0.toList := fun e => hn (ba_toList e)
    go_enter Tryd.func34, Tryd.ntmps34
    go_wp2_with fail
    go_ret
    exact ⟨rfl, below_alloc (below_alloc (Below.refl _ _) _) _⟩
end Go.Proofs.YtknmbalhbecdhaaDoor.Print
