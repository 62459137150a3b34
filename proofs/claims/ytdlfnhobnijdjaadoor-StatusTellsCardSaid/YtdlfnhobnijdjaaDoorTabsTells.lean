/- What the row of StatusTells lists, read off the world; its list of strings, as the walk asks for it. -/
import Derived.Test.YtdlfnhobnijdjaaDoorRows
import Derived.Test.YtdlfnhobnijdjaaDoorSTells
import Derived.SliceStrings
import Derived.ProofKit
import Derived.LaidLaws
import Derived.LaidHandle
set_option linter.unusedVariables false
set_option linter.unusedSimpArgs false
namespace Go.Proofs.YtdlfnhobnijdjaaDoor.Tabs
open Go Go.RowKit Go.Proofs.YtdlfnhobnijdjaaDoor.Sts
theorem et : Tryd.prog.globalNamed "errors.errorType" = some 0 := by kernel_rfl
theorem rt : (Tryd.prog.cutTypes.find? (·.1 == "internal/reflectlite.rtype")).map (·.2) = some 58 := by kernel_rfl
theorem oneRow : ((List.range 103).filter fun t => Tryd.prog.rowNamed t [101, 114, 114, 111, 114]) = [30] := by kernel_rfl
theorem tsize : Tryd.prog.types.size = 103 := by kernel_rfl
/-- What the condition gives a walk: the variable's one cell. -/
theorem tabsTells {W : World} (h : laidMetH Tryd.prog Rows.statusTellsRow.laid W) : ErrT W := by
  have h' : laidMet Tryd.prog [] W ∧ handlesMet Tryd.prog Rows.statusTellsRow.laid W := h
  obtain ⟨name, u, ty, e1, e2, e3, e4, e5⟩ := h'.2 _ (List.mem_singleton.2 rfl)
  have en : name = [101, 114, 114, 111, 114] := (Option.some.inj e1).symm
  subst en
  obtain rfl := Option.some.inj (rt.symm.trans e2)
  have hm : ty ∈ (List.range 103).filter fun t => Tryd.prog.rowNamed t [101, 114, 114, 111, 114] := List.mem_filter.2 ⟨List.mem_range.2 (by rw [← tsize]; exact e3), e4⟩
  rw [oneRow] at hm
  obtain rfl := List.mem_singleton.1 hm
  have hh : typeHandle Tryd.prog 30 = .pointer (some ⟨1, 30, none⟩) := by kernel_rfl
  rw [hh] at e5
  have := World.var?_cell et e5 0
  unfold ErrT
  simpa using this
def IsStrs (W : World) (a : Option Addr) (len cap : Nat) (zs : List ByteArray) : Prop := Strs W a len cap zs ∧ len ≤ 9223372036854775807
theorem isStrs_of_trod {H : Type} {enc : TypeId × Value → H} {W : World} {fuel : Nat} {a : Option Addr} {len cap : Nat} {d : DataW H} {p : List MemPlace}
    (h : DataW.trod enc Tryd.prog W 0 (fun _ => true) true fuel 22 (Value.slice a len cap).cells.toList = some (d, p)) : ∃ zs, IsStrs W a len cap zs := by
  rcases Go.ChangeShapes.open_strings Tryd.underlying22 Tryd.underlying9 (by kernel_rfl) h with ⟨hcs, _⟩ | ⟨x, l, c, zs, hcs, _, hl, hm, hz, _, hcell, hwz⟩
  · simp [Value.cells] at hcs
    obtain ⟨rfl, rfl, rfl⟩ := hcs
    exact ⟨[], ⟨rfl, Nat.le_refl _, fun _ => ⟨rfl, rfl⟩, fun x hx => by cases hx⟩, by omega⟩
  · simp [Value.cells] at hcs
    obtain ⟨rfl, rfl, rfl⟩ := hcs
    simp only [if_true] at hz
    refine ⟨zs.take len, ⟨by rw [List.length_take]; omega, hl, (fun h => by cases h), (fun y hy i hi => ?_)⟩, by unfold maxLen at hm; omega⟩
    obtain rfl := Option.some.inj hy
    have hc := hcell i (by omega)
    rw [hc, List.getD_eq_getElem?_getD, List.getD_eq_getElem?_getD, List.getElem?_take_of_lt hi]
theorem walkTells (e : Int) (a : Option Addr) (len cap : Nat) (zs : List ByteArray) (w : World) (hG : ErrT w) (w0 : (Lit.int .i64 e).wf = true) (w1 : IsStrs w a len cap zs) :
    Calls Tryd.prog 3 #[.int .i64 e, .slice a len cap] w fun ev w' => ev = .returned (.bool true) ∧ Below w.heap.size w w' :=
  tells_walk e a len cap zs w hG w1.1 w1.2
end Go.Proofs.YtdlfnhobnijdjaaDoor.Tabs
