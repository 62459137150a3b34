/- A []uint16 that a law is given, as the walks ask for it. -/
import Derived.Test.YtknmbalhbecdhaaDoorProg
import Derived.Test.YtknmbalhbecdhaaDoorWMore
import Derived.ChangeSlices
import Derived.ProofKit
import Derived.SizedLaws
set_option linter.unusedVariables false
set_option linter.unusedSimpArgs false
namespace Go.Proofs.YtknmbalhbecdhaaDoor.Tabs
open Go Go.RowKit Go.Lib Go.Proofs.YtknmbalhbecdhaaDoorW.PrintWords
def IsRow (k : IntKind) (W : World) (a : Option Addr) (len cap : Nat) (zs : List Int) : Prop := (a = none ∧ len = 0 ∧ cap = 0 ∧ zs = []) ∨ ∃ x, a = some x ∧ len ≤ cap ∧ cap ≤ maxLen ∧ zs.length = cap ∧ (∀ i, i < zs.length → W.cell? (x.add i) = some (.int k (zs.getD i 0))) ∧ ∀ n ∈ zs, (Lit.int k n).wf = true
theorem isRow16_of_trod {H : Type} {enc : TypeId × Value → H} {W : World} {fuel : Nat} {a : Option Addr} {len cap : Nat} {d : DataW H} {p : List MemPlace}
    (h : DataW.trod enc Tryd.prog W 0 (fun _ => true) true fuel 36 (Value.slice a len cap).cells.toList = some (d, p)) (hz : ∀ n ∈ d.weights Tryd.prog 36, n ≤ reachBytes) : ∃ zs, IsRow .u16 W a len cap zs ∧ len * 2 ≤ 140737488351232 := by
  rcases Go.ChangeShapes.open_ints Tryd.underlying36 Tryd.underlying37 (by kernel_rfl) h with ⟨hcs, _⟩ | ⟨x, l, c, zs, hcs, _, hl, hm, hz1, hx, hcell, hwz⟩
  · simp [Value.cells] at hcs
    obtain ⟨rfl, rfl, rfl⟩ := hcs
    exact ⟨[], .inl ⟨rfl, rfl, rfl, rfl⟩, by omega⟩
  · simp [Value.cells] at hcs
    obtain ⟨rfl, rfl, rfl⟩ := hcs
    simp only [if_true] at hz1
    refine ⟨zs, .inr ⟨_, rfl, hl, hm, by simpa using hz1, hcell, hwz⟩, ?_⟩
    obtain rfl : d = .slice (Go.ChangeShapes.lits .u16 (zs.take len)) (Go.ChangeShapes.lits .u16 (zs.drop len)) := congrArg Prod.fst hx
    have hb : Tryd.prog.bytesOf 37 = 2 := by kernel_rfl
    have h1 := hz (((Go.ChangeShapes.lits (H := H) .u16 (zs.take len)).length + (Go.ChangeShapes.lits (H := H) .u16 (zs.drop len)).length) * Tryd.prog.bytesOf 37) (by
      simp only [DataW.weights, Tryd.underlying36]
      exact List.mem_cons_self ..)
    rw [hb] at h1
    simp only [Go.ChangeShapes.lits, List.length_map, List.length_take, List.length_drop] at h1
    have h2 : reachBytes = 140737488351232 := rfl
    rw [h2] at h1
    have h3 : min len zs.length = len := by omega
    rw [h3] at h1
    have h4 := Nat.mul_le_mul_right 2 (Nat.le_add_right len (zs.length - len))
    omega
end Go.Proofs.YtknmbalhbecdhaaDoor.Tabs
