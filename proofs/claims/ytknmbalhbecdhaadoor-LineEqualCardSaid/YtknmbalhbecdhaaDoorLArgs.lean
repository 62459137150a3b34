/- A line of the document's that a law is given. -/
import Derived.Test.YtknmbalhbecdhaaDoorArgs
import Derived.Test.YtknmbalhbecdhaaDoorPrint0
set_option linter.unusedVariables false
set_option linter.unusedSimpArgs false
namespace Go.Proofs.YtknmbalhbecdhaaDoor.Args
open Go Go.RowKit Go.Lib Go.Proofs.YtknmbalhbecdhaaDoorW.PrintWords Go.Proofs.YtknmbalhbecdhaaDoor.Print
abbrev RParam := S52
def StrsB (l : List ByteArray) : Prop := l.length * 16 ≤ 140737488351232 ∧ ∀ z ∈ l, z.size ≤ 140737488351232
theorem rdStrs : Rd (Kd.slice 9 Kd.string) 22 StrsB := Rd.slice Tryd.underlying22 (by kernel_rfl) (by decide) 16 (by kernel_rfl) (Rd.string Tryd.underlying9)
def ParB (p : RParam) : Prop := p.f0.size ≤ 140737488351232 ∧ StrsB p.f1
theorem rdPar : Rd k52 52 ParB :=
  Rd.struct (fun x : RParam => (x.f0, x.f1)) (fun a => ⟨a.1, a.2⟩) (fun _ => rfl) Tryd.underlying52 (by kernel_rfl) (RdF.cons (Rd.string Tryd.underlying9) (RdF.one rdStrs))
def ParsB (l : List RParam) : Prop := l.length * 40 ≤ 140737488351232 ∧ ∀ p ∈ l, ParB p
abbrev RLine := ByteArray × List RParam × ByteArray
def LineB (z : RLine) : Prop := z.1.size ≤ 140737488351232 ∧ ParsB z.2.1 ∧ z.2.2.size ≤ 140737488351232
theorem rdLine : Rd (Kd.iso (Kd.pair Kd.string (Kd.pair (Kd.slice 52 k52) Kd.string)) (fun x : RLine => x)) 41 LineB :=
  Rd.struct (fun x : RLine => x) (fun a => a) (fun _ => rfl) Tryd.underlying41 (by kernel_rfl) (RdF.cons (Rd.string Tryd.underlying9) (RdF.cons (Rd.slice (t := 39) Tryd.underlying39 (by kernel_rfl) (by decide) 40 (by kernel_rfl) rdPar) (RdF.one (Rd.string Tryd.underlying9))))
/-- A line, as the walks ask for it. -/
def IsLine (W : World) (v : Value) (z : RLine) : Prop := LineB z ∧ ∃ A c, v = .agg #[.string z.1, .slice A z.2.1.length c, .string z.2.2] ∧ z.2.1.length ≤ c ∧ Kd.C k52 W A z.2.1.length z.2.1
set_option maxRecDepth 100000 in
theorem openLine {v : Value} {H : Type} {enc : TypeId × Value → H} {W : World} {r : Reach} {b0 : Nat} {d : DataW H} {p : List MemPlace} (hv : Value.okWide Tryd.prog W r b0 41 v) (hd : DataW.Trod enc Tryd.prog W 0 (fun _ => true) true 41 v d p) (hw : ∀ n ∈ d.weights Tryd.prog 41, n ≤ reachBytes) : ∃ z, IsLine W v z := by
  obtain ⟨z, cs, rfl, hK, hB⟩ := agg_of Tryd.underlying41 rdLine hv hd hw
  obtain ⟨c0, c1, rfl, rfl, c2, c3, rfl, ⟨A, c, rfl, hl, hC⟩, rfl⟩ := hK
  exact ⟨z, hB, A, c, rfl, hl, hC⟩
end Go.Proofs.YtknmbalhbecdhaaDoor.Args
