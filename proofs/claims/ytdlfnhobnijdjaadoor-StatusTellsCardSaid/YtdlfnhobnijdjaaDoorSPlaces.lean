/- status.places, walked. -/
import Derived.Test.YtdlfnhobnijdjaaDoorSMiss
set_option linter.unusedVariables false
set_option linter.unusedSimpArgs false
namespace Go.Proofs.YtdlfnhobnijdjaaDoor.Sts
open Go.RowKit Go.Extern.Stop Go.Stop Go.Extern

/-- The places of an error, written. -/
def plc : List ByteArray → List UInt8
  | [] => []
  | s :: L => s.data.toList ++ [58, 32] ++ plc L
theorem ErrT.under {w w' : World} (h : ErrT w) (hb : Below w.heap.size w w') : ErrT w' := (hb.cell (cell_lt h)).trans h
theorem app_list (a b : ByteArray) : (a ++ b).data.toList = a.data.toList ++ b.data.toList := by
  rw [ByteArray.data_append, Array.toList_append]
set_option maxHeartbeats 4000000 in
set_option maxRecDepth 1000000 in
theorem places_walk (e : Int) (E : Value) (L : List ByteArray) (w : World) (hg : ErrT w) (hch : Chain w e E L) (hlen : (plc L).length ≤ 1000000) :
    Calls Tryd.prog 9 #[E] w fun ev w' => ev = .returned (.string ⟨(plc L).toArray⟩) ∧ Below w.heap.size w w' := by
  have HCH := Aside0.mk hch
  obtain ⟨T0, v0, rfl⟩ := hch.iface
  clear hch
  go_enter Tryd.func9, Tryd.ntmps9
  go_wp2
  go_loopg [0, 3] L.length (fun g v0 v3 wr => ∃ (L' : List ByteArray) (out : ByteArray), v3 = .string out ∧ Aside0 (Chain w e v0 L') ∧ L'.length ≤ g ∧ Aside0 (out.data.toList ++ plc L' = plc L) ∧ Aside0 ((∃ old, wr.cell? ⟨w.heap.size, 0, none⟩ = some old) ∧ wr.frozen? ⟨w.heap.size, 0, none⟩ = false) ∧ Aside0 (Below w.heap.size w wr))
  case atStart => exact ⟨L, ⟨#[]⟩, rfl, HCH, Nat.le_refl _, ⟨rfl⟩, ⟨⟨_, by rw [World.cell?_alloc_at _ _ _ _ rfl]; rfl⟩, by rw [World.frozen?_alloc_at _ _ _ _ rfl]⟩, ⟨(Below.refl _ _).alloc (Nat.le_refl _) _⟩⟩
  case round =>
    obtain ⟨L', out, rfl, HC, hg2, HO, HT, HB⟩ := hrel
    have hE := hg.under HB.out
    have hc := HC.out
    cases hc with
    | num =>
      go_wp2_with (go_at_call 12; refine (as_miss e _ _ hE).mono ?_; rintro e1 w1 ⟨rfl, hB1⟩)
      go_ret
      have h1 := HO.out
      rw [plc, List.append_nil] at h1
      exact ⟨by rw [← h1]; rfl, HB.out.trans (hB1.mono HB.out.size)⟩
    | wrap p s E1 L1 h0 h1 h2 =>
      have HC2 := Aside0.mk h2
      obtain ⟨T1, v1, rfl⟩ := h2.iface
      obtain ⟨⟨old, ht⟩, hf⟩ := HT.out
      have hBs := HB.out.size
      have hO := congrArg List.length HO.out
      simp only [plc, List.length_append, List.length_cons, List.length_nil, Array.length_toList] at hO
      have e1 : out.data.size = out.size := rfl
      have e2 : s.data.size = s.size := rfl
      rw [e1, e2] at hO
      have c1 : (9223372036854775807 < s.size + 2) = False := eq_false (by omega)
      have c2 : (9223372036854775807 < out.size + (s.size + 2)) = False := eq_false (by omega)
      have HH0 := Aside0.mk h0
      have HH1 := Aside0.mk h1
      clear h0 h1 h2 HC hO e1 e2
      cases gk with
      | zero => simp at hg2
      | succ g =>
      go_wp2_with (go_at_call 12; refine (as_hit2 w.heap.size p w.heap.size old _ hE (Nat.le_refl _) hBs ht hf).mono ?_; rintro e1 w1 ⟨rfl, ht1, hf1, hB1⟩; have hb2 := HB.out.trans hB1; have hp0 := (hb2.cell (cell_lt HH0.out)).trans HH0.out; have hp1 := (hb2.cell (cell_lt HH1.out)).trans HH1.out; clear hB1)
      go_roundg g
      case measure => omega
      case rel =>
        refine ⟨L1, out ++ (s ++ ⟨#[58, 32]⟩), rfl, HC2, by simp at hg2; omega, ⟨?_⟩, ⟨⟨_, ht1⟩, hf1⟩, ⟨hb2⟩⟩
        have h1 := HO.out
        rw [plc] at h1
        rw [← h1, app_list, app_list]
        simp
end Go.Proofs.YtdlfnhobnijdjaaDoor.Sts
