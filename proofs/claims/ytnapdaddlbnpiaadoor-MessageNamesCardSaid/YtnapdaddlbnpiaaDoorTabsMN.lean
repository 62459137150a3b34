/- What the row of MessageNames lists, read off the world. -/
import Derived.Test.YtnapdaddlbnpiaaDoorMNames
import Derived.Lib.LaidU8T
import Derived.OpenShut
import Derived.ChangeArms
import Derived.MakeChecks
import Derived.ProofKit
set_option linter.unusedVariables false
namespace Go.Proofs.YtnapdaddlbnpiaaDoor.Tabs
open Go Go.RowKit Go.Lib
def gNames : Nat := 0
def gFirst : Nat := 1
def gAccept : Nat := 2
/-- An array of strings that reads as a known datum: its cells. -/
theorem strs_of_reads {P : Program} {w : World} {name : String} {g t e n : Nat} {l : List ByteArray} (hg : P.globalNamed name = some g) (hty : (P.globals[g]?).map (·.type) = some t)
    (ht : P.underlying t = some (.array n e)) (he : P.underlying e = some .string) (hc : P.cellsOf e = 1) (hn : l.length = n)
    (h : VarReads P w name (.agg (l.map fun s => .lit (.string s.data.toList)))) (i : Nat) (hi : i < n) : w.cell? ⟨g, i, none⟩ = some (.string (l.getD i ⟨#[]⟩)) := by
  obtain ⟨g', t', cs, fuel, p, hg', hty', hvar, hd⟩ := h
  obtain rfl := Option.some.inj (hg.symm.trans hg')
  obtain rfl := Option.some.inj (hty.symm.trans hty')
  obtain ⟨fuel', d, q, hdi, hde⟩ := array_elem ht hd i hi
  rw [hc] at hde
  obtain ⟨s, hs, hx, _⟩ := DataW.trod_string he hde
  have hil : i < l.length := by omega
  rw [List.getElem?_map, List.getElem?_eq_getElem hil, Option.map_some, Option.some.injEq] at hdi
  have h0 := World.var?_cell hg hvar i
  rw [h0, ← Array.getElem?_toList]
  have hs0 : (List.take 1 (List.drop (i * 1) cs.toList))[0]? = some (.string s) := by rw [hs]; rfl
  rw [Nat.mul_one, List.getElem?_take, if_pos (by decide), List.getElem?_drop, Nat.add_zero] at hs0
  rw [hs0]
  have hss : s = l[i] := by
    rw [← hdi] at hx
    simp at hx
    have h1 := hx.1
    cases s; cases h9 : l[i]
    rw [h9] at h1
    simp at h1
    rw [h1]
  have := hss
  rw [this, List.getD_eq_getElem?_getD, List.getElem?_eq_getElem hil]; rfl
theorem tabs {W : World} (h : laidMetH Tryd.prog Rows.messageNamesRow.laid W) : MNames.Tab W := by
  rw [MakeChecks.laidMetH_plain _ _ _ (by kernel_rfl)] at h
  have r1 := Lib.laidMet.reads h (n := "tryst/message.names") (.tail _ (.head _))
  intro i hi
  have := strs_of_reads (l := [MNames.nameB 0, MNames.nameB 1, MNames.nameB 2, MNames.nameB 3, MNames.nameB 4, MNames.nameB 5, MNames.nameB 6, MNames.nameB 7, MNames.nameB 8]) (g := 0) (t := 24) (e := 9) (by kernel_rfl) (by kernel_rfl) Tryd.underlying24 Tryd.underlying9 (by kernel_rfl) rfl r1 i hi
  rw [this]
  obtain rfl | rfl | rfl | rfl | rfl | rfl | rfl | rfl | rfl : i = 0 ∨ i = 1 ∨ i = 2 ∨ i = 3 ∨ i = 4 ∨ i = 5 ∨ i = 6 ∨ i = 7 ∨ i = 8 := by omega
  all_goals rfl
end Go.Proofs.YtnapdaddlbnpiaaDoor.Tabs
