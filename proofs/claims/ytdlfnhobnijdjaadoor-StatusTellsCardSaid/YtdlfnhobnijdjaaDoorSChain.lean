/- An error within places: errors.is and errors.As at it. -/
import Derived.Test.YtdlfnhobnijdjaaDoorSAs
set_option linter.unusedVariables false
set_option linter.unusedSimpArgs false
namespace Go.Proofs.YtdlfnhobnijdjaaDoor.Sts
open Go.RowKit Go.Extern.Stop Go.Stop Go.Extern

/-- An error in the world: the places around it, the outermost first, and the number within. -/
inductive Chain (W : World) (e : Int) : Value → List ByteArray → Prop
  | num : Chain W e (.iface 26 (.int .i64 e)) []
  | wrap (p : Nat) (s : ByteArray) (E : Value) (L : List ByteArray) : W.cell? ⟨p, 0, none⟩ = some (.string s) → W.cell? ⟨p, 1, none⟩ = some E → Chain W e E L → Chain W e (.iface 31 (.pointer (some ⟨p, 0, none⟩))) (s :: L)
theorem Chain.under {W W' : World} {e : Int} {E : Value} {L : List ByteArray} (h : Chain W e E L) (hb : Below W.heap.size W W') : Chain W' e E L := by
  induction h with
  | num => exact .num
  | wrap p s E L h0 h1 _ ih => exact .wrap p s E L ((hb.cell (cell_lt h0)).trans h0) ((hb.cell (cell_lt h1)).trans h1) ih
theorem Chain.iface {W : World} {e : Int} {E : Value} {L : List ByteArray} (h : Chain W e E L) : ∃ T v, E = .iface T v := by
  cases h <;> exact ⟨_, _, rfl⟩
theorem noIsP (v : Value) (xT : TypeId) (w : World) : (Instr.typeAssert (.iface 31 v) xT 60 true).run Tryd.prog w = .ok (.tuple #[.nilIface, .bool false]) w := run_typeAssert_lacksB Tryd.underlying60 (by kernel_rfl) (by kernel_rfl) v xT w
theorem hasUnwrapP (v : Value) (xT : TypeId) (w : World) : (Instr.typeAssert (.iface 31 v) xT 63 true).run Tryd.prog w = .ok (.tuple #[.iface 31 v, .bool true]) w := run_typeAssert_hasB Tryd.underlying63 (by kernel_rfl) v xT w
theorem methodUnwrap (v : Value) (w : World) : (Go.method 203 31 v "Unwrap").run Tryd.prog w = .ok (40, v) w := by kernel_rfl
set_option maxHeartbeats 4000000 in
set_option maxRecDepth 1000000 in
theorem is_chain (e b : Int) (W : World) (E : Value) (L : List ByteArray) (hch : Chain W e E L) :
    Calls Tryd.prog 14 #[E, .iface 26 (.int .i64 b), .bool true] W fun ev w' => ev = .returned (.bool (e == b)) ∧ w' = W := by
  have HCH := Aside0.mk hch
  have nE := noIsE
  have uE := noUnwrapE
  have vE := noUnwrapsE
  have nP := noIsP
  have uP := hasUnwrapP
  have mU := methodUnwrap
  obtain ⟨T0, v0, rfl⟩ := hch.iface
  clear hch
  go_enter Tryd.func14, Tryd.ntmps14
  go_wp2
  go_loopg [0] L.length (fun g v0 wr => ∃ L', Aside0 (Chain W e v0 L') ∧ L'.length ≤ g ∧ wr = W)
  case atStart => exact ⟨L, HCH, Nat.le_refl _, rfl⟩
  case round =>
    obtain ⟨L', HC, hlen, rfl⟩ := hrel
    have hc := HC.out
    cases hc with
    | num =>
      have heq := eql_int e b
      cases hb : (e == b)
      · rw [hb] at heq
        go_wp2
        go_ret
        exact ⟨by rw [hb]; rfl, rfl⟩
      · rw [hb] at heq
        go_wp2
        go_ret
        exact ⟨by rw [hb]; rfl, rfl⟩
    | wrap p s E1 L1 h0 h1 h2 =>
      have hty := run_eql_iface_types (P := Tryd.prog) 31 26 (.pointer (some ⟨p, 0, none⟩)) (.int .i64 b) Tryd.underlying30 (by decide) wr
      have HC2 := Aside0.mk h2
      obtain ⟨T1, v1, rfl⟩ := h2.iface
      clear h2 HC
      cases gk with
      | zero => simp at hlen
      | succ g =>
      go_wp2
      go_roundg g
      case measure => omega
      case rel => exact ⟨L1, HC2, by simp at hlen; omega, rfl⟩
end Go.Proofs.YtdlfnhobnijdjaaDoor.Sts
