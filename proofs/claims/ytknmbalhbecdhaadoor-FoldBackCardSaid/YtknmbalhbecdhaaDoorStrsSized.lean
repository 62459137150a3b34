/- A []string that a law is given, each string within the form's own reach. -/
import Derived.Test.YtknmbalhbecdhaaDoorStrsArg
import Derived.SizedLaws
set_option linter.unusedVariables false
set_option linter.unusedSimpArgs false
namespace Go.Proofs.YtknmbalhbecdhaaDoor.Tabs
open Go Go.RowKit Go.Lib Go.Proofs.YtknmbalhbecdhaaDoorW.PrintWords
theorem weights_strs {H : Type} (P : Program) (e : TypeId) : ∀ (l : List ByteArray) (z : ByteArray), z ∈ l → z.size ∈ DataW.weightsAll (H := H) P e (Go.ChangeShapes.strs l)
  | y :: t, z, h => by
    simp only [Go.ChangeShapes.strs, List.map_cons, DataW.weightsAll, DataW.weights, List.mem_append, List.mem_singleton]
    rcases List.mem_cons.1 h with rfl | h
    · left; rw [Array.length_toList]; rfl
    · right; exact weights_strs P e t z h
def IsStrsZ (W : World) (a : Option Addr) (len cap : Nat) (zs : List ByteArray) : Prop := IsStrs W a len cap zs ∧ ∀ z ∈ zs, z.size ≤ 140737488351232
theorem isStrsZ_of_trod {H : Type} {enc : TypeId × Value → H} {W : World} {fuel : Nat} {a : Option Addr} {len cap : Nat} {d : DataW H} {p : List MemPlace}
    (h : DataW.trod enc Tryd.prog W 0 (fun _ => true) true fuel 22 (Value.slice a len cap).cells.toList = some (d, p)) (hz : ∀ n ∈ d.weights Tryd.prog 22, n ≤ reachBytes) : ∃ zs, IsStrsZ W a len cap zs := by
  have h0 := h
  rcases Go.ChangeShapes.open_strings Tryd.underlying22 Tryd.underlying9 (by kernel_rfl) h with ⟨hcs, _⟩ | ⟨x, l, c, zs, hcs, _, hl, hm, hz1, hx, hcell, hwz⟩
  · simp [Value.cells] at hcs
    obtain ⟨rfl, rfl, rfl⟩ := hcs
    exact ⟨[], ⟨rfl, Nat.le_refl _, rfl, by omega, fun h => absurd h (by omega)⟩, fun z hz => by cases hz⟩
  · simp [Value.cells] at hcs
    obtain ⟨rfl, rfl, rfl⟩ := hcs
    simp only [if_true] at hz1
    obtain rfl : d = .slice (Go.ChangeShapes.strs (zs.take len)) (Go.ChangeShapes.strs (zs.drop len)) := congrArg Prod.fst hx
    refine ⟨zs.take len, ⟨by rw [List.length_take]; omega, hl, by rw [List.length_take]; omega, by unfold maxLen at hm; omega, fun _ => ⟨x, rfl, fun j q hj => ⟨[.string q], rfl, rfl, fun i u hi => ?_⟩⟩⟩, fun z hzm => ?_⟩
    · have hj' : j < len := by
        have := (List.getElem?_eq_some_iff.1 hj).1
        rw [List.length_take] at this; omega
      rw [List.getElem?_take_of_lt hj'] at hj
      have hc := hcell j (by omega)
      rw [List.getD_eq_getElem?_getD, hj] at hc
      cases i with
      | zero =>
        have : u = .string q := by simpa using hi.symm
        subst this
        show W.cell? (x.add (j * 1 + 0)) = _
        simpa using hc
      | succ i => simp at hi
    · refine hz _ ?_
      simp only [DataW.weights, Tryd.underlying22]
      exact List.mem_cons_of_mem _ (List.mem_append_left _ (weights_strs _ _ _ _ hzm))
end Go.Proofs.YtknmbalhbecdhaaDoor.Tabs
