/- line.at: walked by hand (slices.IndexFunc over parameters with a closure that holds a name). -/
import Derived.Test.YtknmbalhbecdhaaDoorLEq
set_option linter.unusedVariables false
set_option linter.unusedSimpArgs false
namespace Go.Proofs.YtknmbalhbecdhaaDoor.Print
open Go.RowKit Go.Proofs.YtknmbalhbecdhaaDoorW.PrintWords Go.Proofs.YtknmbalhbecdhaaDoorW.PrintLast Go.Proofs.YtknmbalhbecdhaaDoorW.PrintMore

def hasN (a : ByteArray) (p : S83) : Bool := decide (p.f0 = a)
/-- Where a parameter of a name stands, from a place on; -1: there is none. -/
def idxN (a : ByteArray) : List S83 → Nat → Int
  | [], _ => -1
  | p :: t, i => if hasN a p = true then (i : Int) else idxN a t (i + 1)
theorem beqS_yes (a : ByteArray) : (a.toList == a.toList) = true := beq_self_eq_true _
theorem at1_walk (p : S83) (a : ByteArray) (A : Option Addr) (c : Nat) (x : Addr) (w : World) (hx : w.cell? x = some (.string a)) :
    Calls Tryd.prog 80 #[.agg #[.string p.f0, .slice A p.f1.length c], .pointer (some x)] w fun e w' => e = .returned (.bool (hasN a p)) ∧ Below w.heap.size w w' := by
  have hxl := cellLt0 hx
  by_cases h : p.f0 = a
  · have hr : hasN a p = true := decide_eq_true h
    have hb : (p.f0.toList == a.toList) = true := by rw [h]; exact beqS_yes a
    rw [hr]
    clear hr h
    go_enter Tryd.func80, Tryd.ntmps80
    go_wp2_with fail
    go_ret
    exact ⟨rfl, below_alloc (Below.refl _ _) _⟩
  · have hr : hasN a p = false := decide_eq_false h
    have hb := beqS_no h
    rw [hr]
    clear hr h
    go_enter Tryd.func80, Tryd.ntmps80
    go_wp2_with fail
    go_ret
    exact ⟨rfl, below_alloc (Below.refl _ _) _⟩
set_option maxHeartbeats 4000000 in
set_option maxRecDepth 100000 in
theorem idxF_walk (A0 : Option Addr) (c0 : Nat) (l0 : List S83) (a : ByteArray) (x : Addr) (w : World) (h0 : Kd.C k83 w A0 l0.length l0) (hx : w.cell? x = some (.string a)) :
    Calls Tryd.prog 79 #[.slice A0 l0.length c0, .func (.func 80) #[] #[.pointer (some x)]] w fun e w' => e = .returned (.int .i64 (idxN a l0 0)) ∧ Below w.heap.size w w' := by
  have hm := h0.2.1
  have H0 := Aside0.mk h0
  have HX := Aside0.mk hx
  have hxl := cellLt0 hx
  clear h0 hx
  obtain ⟨n, hn⟩ : ∃ n, n = l0.length := ⟨_, rfl⟩
  have HN := Aside0.mk hn
  rw [← hn] at hm ⊢
  clear hn
  go_enter Tryd.func79, Tryd.ntmps79
  go_wp2_with fail
  go_loopg [5, 8] n (fun g v5 v8 wr => ∃ i : Nat, v8 = .int .i64 i ∧ i ≤ n ∧ Aside0 (n ≤ i + g) ∧ Aside0 (Below w.heap.size w wr) ∧ Aside0 (idxN a l0 0 = idxN a (l0.drop i) i))
  case atStart => exact ⟨0, rfl, by omega, ⟨by omega⟩, ⟨Below.refl _ _⟩, ⟨rfl⟩⟩
  case round =>
    obtain ⟨i, rfl, hi, HG, HB, HE⟩ := hrel
    by_cases hlt : i < n
    · cases gk with
      | zero => exfalso; have := HG.out; omega
      | succ g =>
      obtain ⟨b0, o0, A2, c2, e0, p0, p1, hc2, hC2⟩ := par_at (Kd.C_below H0.out HB.out) i (by have := HN.out; omega)
      subst e0
      have hd : l0.drop i = l0.getD i z83 :: l0.drop (i + 1) := by
        rw [List.drop_eq_getElem_cons (by have := HN.out; omega), List.getD_eq_getElem?_getD, List.getElem?_eq_getElem (by have := HN.out; omega)]; rfl
      obtain ⟨p, hp⟩ : ∃ p, p = l0.getD i z83 := ⟨_, rfl⟩
      rw [← hp] at p0 p1 hd
      have HD := Aside0.mk hd
      clear hC2 hc2 hp hd
      have HQQ := Aside0.mk (at1_walk p a A2 c2 x)
      obtain ⟨r, hr⟩ : ∃ r, r = hasN a p := ⟨_, rfl⟩
      have HR := Aside0.mk hr
      rw [← hr] at HQQ
      clear hr
      go_wp2_with fail
      go_at_call 80
      refine (HQQ.out _ ((HB.out.cell hxl).trans HX.out)).mono ?_
      rintro e w2 ⟨rfl, hB⟩
      have HB2 := Aside0.mk (HB.out.trans (hB.mono HB.out.size))
      clear hB
      cases r with
      | true =>
        go_wp2_with fail
        go_ret
        exact ⟨by rw [HE.out, HD.out, idxN, if_pos HR.out.symm]; rfl, HB2.out⟩
      | false =>
        go_wp2_with fail
        go_roundg g
        case measure => have := HG.out; omega
        case rel => exact ⟨i + 1, by first | rfl | (go_num; done), by omega, ⟨by have := HG.out; omega⟩, HB2, ⟨by rw [HE.out, HD.out, idxN, if_neg (by rw [← HR.out]; simp)]⟩⟩
    · have hin : i = n := by omega
      subst hin
      go_wp2_with fail
      go_ret
      refine ⟨?_, HB.out⟩
      rw [HE.out, List.drop_eq_nil_of_le (by have := HN.out; omega)]
      rfl
def line_at.f (l0 : List S83) (a1 : ByteArray) : Option Int := some (idxN a1 l0 0)
theorem line_at.calls (A0 : Option Addr) (c0 : Nat) (l0 : List S83) (a1 : ByteArray) (r : Int) (w : World) (hG : GG w) (hr0 : Kd.C k83 w A0 l0.length l0) (hc0 : l0.length ≤ c0) (h : line_at.f l0 a1 = some r) :
    Calls Tryd.prog 61 #[.slice A0 l0.length c0, .string a1] w fun e w' => e = .returned (.int .i64 r) ∧ Below w.heap.size w w' := by
  obtain rfl := Option.some.inj h
  have H0 := Aside0.mk hr0
  clear h hG hr0 hc0
  obtain ⟨n, hn⟩ : ∃ n, n = l0.length := ⟨_, rfl⟩
  have HN := Aside0.mk hn
  rw [← hn]
  obtain ⟨r, hr⟩ : ∃ r, r = idxN a1 l0 0 := ⟨_, rfl⟩
  have HR := Aside0.mk hr
  rw [← hr]
  clear hn hr
  have hmf : ∀ (fn : Fn) (first cap : Array Value) (w : World), (Instr.makeFunc fn first cap).run Tryd.prog w = .ok (.func fn first cap) w := fun _ _ _ _ => rfl
  go_enter Tryd.func61, Tryd.ntmps61
  go_wp2_with fail
  go_at_call 79
  rw [HN.out]
  refine (idxF_walk A0 c0 l0 a1 ⟨w.heap.size, 0, none⟩ _ (Kd.C_below H0.out (below_alloc (Below.refl _ _) _)) (by rw [World.cell?_alloc_at _ _ _ _ rfl]; rfl)).mono ?_
  rintro e w2 ⟨rfl, hB⟩
  have HB := Aside0.mk hB
  clear hB
  rw [← HR.out, ← HN.out]
  go_wp2_with fail
  go_ret
  exact ⟨rfl, (below_alloc (Below.refl _ _) _).trans (HB.out.mono (by simp))⟩
end Go.Proofs.YtknmbalhbecdhaaDoor.Print
