/- A []string that a law is given, as the walks ask for it. -/
import Derived.Test.YtknmbalhbecdhaaDoorProg
import Derived.Test.YtknmbalhbecdhaaDoorWMore
import Derived.SliceStrings
import Derived.ProofKit
set_option linter.unusedVariables false
set_option linter.unusedSimpArgs false
namespace Go.Proofs.YtknmbalhbecdhaaDoor.Tabs
open Go Go.RowKit Go.Lib Go.Proofs.YtknmbalhbecdhaaDoorW.PrintWords
def IsStrs (W : World) (a : Option Addr) (len cap : Nat) (zs : List ByteArray) : Prop := zs.length = len ∧ len ≤ cap ∧ Kd.C Kd.string W a len zs
theorem isStrs_of_trod {H : Type} {enc : TypeId × Value → H} {W : World} {fuel : Nat} {a : Option Addr} {len cap : Nat} {d : DataW H} {p : List MemPlace}
    (h : DataW.trod enc Tryd.prog W 0 (fun _ => true) true fuel 22 (Value.slice a len cap).cells.toList = some (d, p)) : ∃ zs, IsStrs W a len cap zs := by
  rcases Go.ChangeShapes.open_strings Tryd.underlying22 Tryd.underlying9 (by kernel_rfl) h with ⟨hcs, _⟩ | ⟨x, l, c, zs, hcs, _, hl, hm, hz, _, hcell, hwz⟩
  · simp [Value.cells] at hcs
    obtain ⟨rfl, rfl, rfl⟩ := hcs
    exact ⟨[], rfl, Nat.le_refl _, rfl, by omega, fun h => absurd h (by omega)⟩
  · simp [Value.cells] at hcs
    obtain ⟨rfl, rfl, rfl⟩ := hcs
    simp only [if_true] at hz
    refine ⟨zs.take len, by rw [List.length_take]; omega, hl, by rw [List.length_take]; omega, by unfold maxLen at hm; omega, fun _ => ⟨x, rfl, fun j q hj => ⟨[.string q], rfl, rfl, fun i u hi => ?_⟩⟩⟩
    have hj' : j < len := by
      have := (List.getElem?_eq_some_iff.1 hj).1
      rw [List.length_take] at this; omega
    rw [List.getElem?_take_of_lt hj'] at hj
    have hc := hcell j (by omega)
    rw [List.getD_eq_getElem?_getD, hj] at hc
    cases i with
    | zero =>
      have : u = .string q := by simpa using hi.symm
      subst this
      show W.cell? (x.add (j * 1 + 0)) = _
      simpa using hc
    | succ i => simp at hi
end Go.Proofs.YtknmbalhbecdhaaDoor.Tabs
