/- The law StatusClasses, walked. -/
import Derived.Test.YtdlfnhobnijdjaaDoorSClass
set_option linter.unusedVariables false
set_option linter.unusedSimpArgs false
namespace Go.Proofs.YtdlfnhobnijdjaaDoor.Sts
open Go.RowKit Go.Extern.Stop Go.Stop Go.Extern

theorem class_num (e : Int) (w : World) : Calls Tryd.prog 8 #[.iface 26 (.int .i64 e)] w fun ev w' => ev = .returned (.string (clsOf e)) ∧ Below w.heap.size w w' :=
  class_walk _ _ e w (fun b w' _ => is_num e b w')
theorem Class_num (e : Int) (w : World) : Calls Tryd.prog 7 #[.int .i64 e] w fun ev w' => ev = .returned (.string (clsOf e)) ∧ Below w.heap.size w w' := by
  go_enter Tryd.func7, Tryd.ntmps7
  go_wp2_with (go_at_call 8; refine (class_num e _).mono ?_; rintro e1 w1 ⟨rfl, hB⟩)
  go_ret
  exact ⟨rfl, hB⟩
theorem awake_walk (w : World) : Calls Tryd.prog 4 #[] w fun ev w' => ev = .returned (.bool true) ∧ Below w.heap.size w w' := by
  have h0 : clsOf 0 = ⟨#[50, 46, 48]⟩ := by decide
  go_enter Tryd.func4, Tryd.ntmps4
  go_wp2_with (go_at_call 7; refine (Class_num 0 _).mono ?_; rintro e1 w1 ⟨rfl, hB⟩; rw [h0])
  go_ret
  exact ⟨rfl, hB⟩
theorem ref_one (e : Int) (k : Int) (c : ByteArray) (w : World) (hk : clsOf k = c) (h : Calls Tryd.prog 6 #[.int .i64 k] w fun ev w' => ev = .returned (.string c) ∧ w' = w) (he : e = k) : Calls Tryd.prog 6 #[.int .i64 e] w fun ev w' => ev = .returned (.string (clsOf e)) ∧ w' = w := by
  subst he; rw [hk]; exact h
theorem ref_walk (e : Int) (w : World) : Calls Tryd.prog 6 #[.int .i64 e] w fun ev w' => ev = .returned (.string (clsOf e)) ∧ w' = w := by
  by_cases hin : e = 0 ∨ e = 14 ∨ e = 3 ∨ e = 5 ∨ e = 6 ∨ e = 8 ∨ e = 18 ∨ e = 15 ∨ e = 16 ∨ e = 4 ∨ e = 9 ∨ e = 13 ∨ e = 17
  · rcases hin with h | h | h | h | h | h | h | h | h | h | h | h | h
    all_goals
      refine ref_one e _ _ w rfl ?_ h
      go_enter Tryd.func6, Tryd.ntmps6
      go_wp2
      go_ret
      exact ⟨rfl, rfl⟩
  · simp only [not_or] at hin
    obtain ⟨h1, h2, h3, h4, h5, h6, h7, h8, h9, h10, h11, h12, h13⟩ := hin
    have hc : clsOf e = ⟨#[51, 46, 49]⟩ := by
      simp [clsOf, clsFrom, ers, *]
    rw [hc]
    clear hc
    replace h1 : (e == 0) = false := beq_eq_false_iff_ne.2 h1
    replace h2 : (e == 14) = false := beq_eq_false_iff_ne.2 h2
    replace h3 : (e == 3) = false := beq_eq_false_iff_ne.2 h3
    replace h4 : (e == 5) = false := beq_eq_false_iff_ne.2 h4
    replace h5 : (e == 6) = false := beq_eq_false_iff_ne.2 h5
    replace h6 : (e == 8) = false := beq_eq_false_iff_ne.2 h6
    replace h7 : (e == 18) = false := beq_eq_false_iff_ne.2 h7
    replace h8 : (e == 15) = false := beq_eq_false_iff_ne.2 h8
    replace h9 : (e == 16) = false := beq_eq_false_iff_ne.2 h9
    replace h10 : (e == 4) = false := beq_eq_false_iff_ne.2 h10
    replace h11 : (e == 9) = false := beq_eq_false_iff_ne.2 h11
    replace h12 : (e == 13) = false := beq_eq_false_iff_ne.2 h12
    replace h13 : (e == 17) = false := beq_eq_false_iff_ne.2 h13
    go_enter Tryd.func6, Tryd.ntmps6
    go_wp2
    go_ret
    exact ⟨rfl, rfl⟩
end Go.Proofs.YtdlfnhobnijdjaaDoor.Sts
