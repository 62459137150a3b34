/- MessageNames: the walks of message.Name, message.Right at the empty message, and of the law. -/
import Derived.Test.YtnapdaddlbnpiaaDoorRows
import Derived.WalkKit
import Derived.WalkSpells
import Derived.BigQuiet
import Derived.Deep.QuietTactic
import Derived.Below
import Derived.Outline
set_option linter.unusedVariables false
namespace Go.Proofs.YtnapdaddlbnpiaaDoor.MNames
open Go.RowKit

def nameB (i : Nat) : ByteArray := match i with
  | 1 => ⟨#[80, 85, 66, 76, 73, 83, 72]⟩
  | 2 => ⟨#[82, 69, 81, 85, 69, 83, 84]⟩
  | 3 => ⟨#[82, 69, 80, 76, 89]⟩
  | 4 => ⟨#[65, 68, 68]⟩
  | 5 => ⟨#[67, 65, 78, 67, 69, 76]⟩
  | 6 => ⟨#[82, 69, 70, 82, 69, 83, 72]⟩
  | 7 => ⟨#[67, 79, 85, 78, 84, 69, 82]⟩
  | 8 => ⟨#[68, 69, 67, 76, 73, 78, 69, 67, 79, 85, 78, 84, 69, 82]⟩
  | _ => ⟨#[]⟩
/-- The listed table, read off the world. -/
def Tab (w : World) : Prop := ∀ i, i < 9 → w.cell? ⟨0, i, none⟩ = some (.string (nameB i))
theorem Tab.alloc {w : World} (h : Tab w) (o : Obj) : Tab (w.alloc o) := fun i hi => by
  have hl : 0 < w.heap.size := by
    have h0 := h i hi
    rcases Nat.lt_or_ge 0 w.heap.size with h9 | h9
    · exact h9
    · simp [World.cell?, Array.getElem?_eq_none h9] at h0
  rw [World.cell?_alloc_lt _ _ _ (by simpa using hl)]; exact h i hi
theorem Tab.drewN {w : World} (h : Tab w) (n : Nat) : Tab (w.drewN n) := h
theorem Name_in (n : Nat) (h1 : 1 ≤ n) (h : n ≤ 8) (w : World) (T : Tab w) :
    Calls Tryd.prog 5 #[.int .i64 n] w fun e w' => e = .returned (.string (nameB n)) ∧ w' = w := by
  have hc := T n (by omega)
  have d1 : decide ((n : Int) < 1) = false := decide_eq_false (by omega)
  have d2 : decide ((n : Int) > 8) = false := decide_eq_false (by omega)
  clear T
  go_enter Tryd.func5, Tryd.ntmps5
  go_wp2
  go_ret
  exact ⟨rfl, rfl⟩
theorem Name_out (n : Int) (h : n < 1 ∨ 8 < n) (w : World) :
    Calls Tryd.prog 5 #[.int .i64 n] w fun e w' => e = .returned (.string ⟨#[]⟩) ∧ w' = w := by
  by_cases h0 : n < 1
  · have d1 : decide (n < 1) = true := decide_eq_true h0
    go_enter Tryd.func5, Tryd.ntmps5
    go_wp2
    go_ret
    exact ⟨rfl, rfl⟩
  · have d1 : decide (n < 1) = false := decide_eq_false h0
    have d2 : decide (n > 8) = true := decide_eq_true (by omega)
    go_enter Tryd.func5, Tryd.ntmps5
    go_wp2
    go_ret
    exact ⟨rfl, rfl⟩
theorem Right_none (w : World) :
    Calls Tryd.prog 6 #[.agg #[.int .i64 0, .slice none 0 0, .slice none 0 0]] w fun e w' => e = .returned (.int .i64 13) ∧ Below w.heap.size w w' := by
  go_enter Tryd.func6, Tryd.ntmps6
  go_wp2_with (go_at_call 5; refine (Name_out 0 (by omega) _).mono ?_; rintro e w' ⟨rfl, rfl⟩)
  go_ret
  exact ⟨rfl, (Below.refl _ _).alloc (Nat.le_refl _) _⟩
theorem awake_walk (w : World) (T : Tab w) :
    Calls Tryd.prog 4 #[] w fun e w' => e = .returned (.bool true) ∧ Below w.heap.size w w' := by
  have HT : Calls Tryd.prog 5 #[.int .i64 8] w fun e w' => e = .returned (.string ⟨#[68, 69, 67, 76, 73, 78, 69, 67, 79, 85, 78, 84, 69, 82]⟩) ∧ w' = w := Name_in 8 (by omega) (by omega) w T
  clear T
  go_enter Tryd.func4, Tryd.ntmps4
  go_wp2_with (first | (go_at_call 5; refine HT.mono ?_; rintro e w' ⟨rfl, rfl⟩) | (go_at_call 6; refine (Right_none _).mono ?_; rintro e w2 ⟨rfl, hB⟩))
  go_ret
  exact ⟨rfl, hB⟩
theorem Tab.below {w w' : World} (h : Tab w) (hb : Below w.heap.size w w') : Tab w' := fun i hi => by
  have hl : 0 < w.heap.size := by
    have h0 := h i hi
    rcases Nat.lt_or_ge 0 w.heap.size with h9 | h9
    · exact h9
    · simp [World.cell?, Array.getElem?_eq_none h9] at h0
  exact (hb.cell (p := ⟨_, i, none⟩) hl).trans (h i hi)
theorem below_dN {B : Nat} {a w : World} (h : Below B a w) (n : Nat) : Below B a (w.drewN n) := ⟨h.os, h.tape, h.output, h.size, h.block⟩
theorem law_out (n : Int) (h : n < 1 ∨ 8 < n) (w : World) (T : Tab w) :
    Calls Tryd.prog 3 #[.int .i64 n] w fun e w' => e = .returned (.bool true) ∧ Below w.heap.size w w' := by
  have HA := awake_walk w T
  have HO := Name_out n h
  have hnot : ∀ (x : Bool) (w : World), (Op.unary .not (.bool x)).run Tryd.prog w = .ok (.bool (!x)) w := fun _ _ => rfl
  clear T
  by_cases h0 : n < 1
  · have d1 : decide (n < 1) = true := decide_eq_true h0
    clear h
    go_enter Tryd.func3, Tryd.ntmps3
    go_wp2_with (first | (go_at_call 4; refine HA.mono ?_; rintro e w2 ⟨rfl, hB⟩) | (go_at_call 5; refine (HO _).mono ?_; rintro e w' ⟨rfl, rfl⟩))
    go_ret
    exact ⟨rfl, hB⟩
  · have d1 : decide (n < 1) = false := decide_eq_false h0
    have d2 : decide (n > 8) = true := decide_eq_true (by omega)
    clear h
    go_enter Tryd.func3, Tryd.ntmps3
    go_wp2_with (first | (go_at_call 4; refine HA.mono ?_; rintro e w2 ⟨rfl, hB⟩) | (go_at_call 5; refine (HO _).mono ?_; rintro e w' ⟨rfl, rfl⟩))
    go_ret
    exact ⟨rfl, hB⟩
theorem law_1 (w : World) (T : Tab w) :
    Calls Tryd.prog 3 #[.int .i64 1] w fun e w' => e = .returned (.bool true) ∧ Below w.heap.size w w' := by
  have HA : Calls Tryd.prog 4 #[] w fun e w' => e = .returned (.bool true) ∧ Below w.heap.size w w' ∧ Tab w' := (awake_walk w T).mono fun e w' h => ⟨h.1, h.2, T.below h.2⟩
  have hidx : ∀ w : World, (Instr.index 24 (.agg #[.string ⟨#[]⟩, .string ⟨#[80, 85, 66, 76, 73, 83, 72]⟩, .string ⟨#[82, 69, 81, 85, 69, 83, 84]⟩, .string ⟨#[82, 69, 80, 76, 89]⟩, .string ⟨#[65, 68, 68]⟩, .string ⟨#[67, 65, 78, 67, 69, 76]⟩, .string ⟨#[82, 69, 70, 82, 69, 83, 72]⟩, .string ⟨#[67, 79, 85, 78, 84, 69, 82]⟩, .string ⟨#[68, 69, 67, 76, 73, 78, 69, 67, 79, 85, 78, 84, 69, 82]⟩]) (.int .i64 1)).run Tryd.prog w = .ok (.string ⟨#[80, 85, 66, 76, 73, 83, 72]⟩) w := fun _ => by kernel_rfl
  have hnot : ∀ (x : Bool) (w : World), (Op.unary .not (.bool x)).run Tryd.prog w = .ok (.bool (!x)) w := fun _ _ => rfl
  clear T
  go_enter Tryd.func3, Tryd.ntmps3
  go_wp2_with (go_at_call 4; refine HA.mono ?_; rintro e w2 ⟨rfl, hB, hT⟩; have HT : ∀ n, Calls Tryd.prog 5 #[.int .i64 1] (w2.drewN n) fun e w' => e = .returned (.string ⟨#[80, 85, 66, 76, 73, 83, 72]⟩) ∧ w' = w2.drewN n := fun n => Name_in 1 (by omega) (by omega) _ (hT.drewN n); clear hT)
  go_quiet ((go_at_call 5; exact Calls.quiet_of_same (HT _)))
  go_wp2
  go_ret
  exact ⟨by first | rfl | simp, below_dN hB _⟩
theorem law_2 (w : World) (T : Tab w) :
    Calls Tryd.prog 3 #[.int .i64 2] w fun e w' => e = .returned (.bool true) ∧ Below w.heap.size w w' := by
  have HA : Calls Tryd.prog 4 #[] w fun e w' => e = .returned (.bool true) ∧ Below w.heap.size w w' ∧ Tab w' := (awake_walk w T).mono fun e w' h => ⟨h.1, h.2, T.below h.2⟩
  have hidx : ∀ w : World, (Instr.index 24 (.agg #[.string ⟨#[]⟩, .string ⟨#[80, 85, 66, 76, 73, 83, 72]⟩, .string ⟨#[82, 69, 81, 85, 69, 83, 84]⟩, .string ⟨#[82, 69, 80, 76, 89]⟩, .string ⟨#[65, 68, 68]⟩, .string ⟨#[67, 65, 78, 67, 69, 76]⟩, .string ⟨#[82, 69, 70, 82, 69, 83, 72]⟩, .string ⟨#[67, 79, 85, 78, 84, 69, 82]⟩, .string ⟨#[68, 69, 67, 76, 73, 78, 69, 67, 79, 85, 78, 84, 69, 82]⟩]) (.int .i64 2)).run Tryd.prog w = .ok (.string ⟨#[82, 69, 81, 85, 69, 83, 84]⟩) w := fun _ => by kernel_rfl
  have hnot : ∀ (x : Bool) (w : World), (Op.unary .not (.bool x)).run Tryd.prog w = .ok (.bool (!x)) w := fun _ _ => rfl
  clear T
  go_enter Tryd.func3, Tryd.ntmps3
  go_wp2_with (go_at_call 4; refine HA.mono ?_; rintro e w2 ⟨rfl, hB, hT⟩; have HT : ∀ n, Calls Tryd.prog 5 #[.int .i64 2] (w2.drewN n) fun e w' => e = .returned (.string ⟨#[82, 69, 81, 85, 69, 83, 84]⟩) ∧ w' = w2.drewN n := fun n => Name_in 2 (by omega) (by omega) _ (hT.drewN n); clear hT)
  go_quiet ((go_at_call 5; exact Calls.quiet_of_same (HT _)))
  go_wp2
  go_ret
  exact ⟨by first | rfl | simp, below_dN hB _⟩
theorem law_3 (w : World) (T : Tab w) :
    Calls Tryd.prog 3 #[.int .i64 3] w fun e w' => e = .returned (.bool true) ∧ Below w.heap.size w w' := by
  have HA : Calls Tryd.prog 4 #[] w fun e w' => e = .returned (.bool true) ∧ Below w.heap.size w w' ∧ Tab w' := (awake_walk w T).mono fun e w' h => ⟨h.1, h.2, T.below h.2⟩
  have hidx : ∀ w : World, (Instr.index 24 (.agg #[.string ⟨#[]⟩, .string ⟨#[80, 85, 66, 76, 73, 83, 72]⟩, .string ⟨#[82, 69, 81, 85, 69, 83, 84]⟩, .string ⟨#[82, 69, 80, 76, 89]⟩, .string ⟨#[65, 68, 68]⟩, .string ⟨#[67, 65, 78, 67, 69, 76]⟩, .string ⟨#[82, 69, 70, 82, 69, 83, 72]⟩, .string ⟨#[67, 79, 85, 78, 84, 69, 82]⟩, .string ⟨#[68, 69, 67, 76, 73, 78, 69, 67, 79, 85, 78, 84, 69, 82]⟩]) (.int .i64 3)).run Tryd.prog w = .ok (.string ⟨#[82, 69, 80, 76, 89]⟩) w := fun _ => by kernel_rfl
  have hnot : ∀ (x : Bool) (w : World), (Op.unary .not (.bool x)).run Tryd.prog w = .ok (.bool (!x)) w := fun _ _ => rfl
  clear T
  go_enter Tryd.func3, Tryd.ntmps3
  go_wp2_with (go_at_call 4; refine HA.mono ?_; rintro e w2 ⟨rfl, hB, hT⟩; have HT : ∀ n, Calls Tryd.prog 5 #[.int .i64 3] (w2.drewN n) fun e w' => e = .returned (.string ⟨#[82, 69, 80, 76, 89]⟩) ∧ w' = w2.drewN n := fun n => Name_in 3 (by omega) (by omega) _ (hT.drewN n); clear hT)
  go_quiet ((go_at_call 5; exact Calls.quiet_of_same (HT _)))
  go_wp2
  go_ret
  exact ⟨by first | rfl | simp, below_dN hB _⟩
theorem law_4 (w : World) (T : Tab w) :
    Calls Tryd.prog 3 #[.int .i64 4] w fun e w' => e = .returned (.bool true) ∧ Below w.heap.size w w' := by
  have HA : Calls Tryd.prog 4 #[] w fun e w' => e = .returned (.bool true) ∧ Below w.heap.size w w' ∧ Tab w' := (awake_walk w T).mono fun e w' h => ⟨h.1, h.2, T.below h.2⟩
  have hidx : ∀ w : World, (Instr.index 24 (.agg #[.string ⟨#[]⟩, .string ⟨#[80, 85, 66, 76, 73, 83, 72]⟩, .string ⟨#[82, 69, 81, 85, 69, 83, 84]⟩, .string ⟨#[82, 69, 80, 76, 89]⟩, .string ⟨#[65, 68, 68]⟩, .string ⟨#[67, 65, 78, 67, 69, 76]⟩, .string ⟨#[82, 69, 70, 82, 69, 83, 72]⟩, .string ⟨#[67, 79, 85, 78, 84, 69, 82]⟩, .string ⟨#[68, 69, 67, 76, 73, 78, 69, 67, 79, 85, 78, 84, 69, 82]⟩]) (.int .i64 4)).run Tryd.prog w = .ok (.string ⟨#[65, 68, 68]⟩) w := fun _ => by kernel_rfl
  have hnot : ∀ (x : Bool) (w : World), (Op.unary .not (.bool x)).run Tryd.prog w = .ok (.bool (!x)) w := fun _ _ => rfl
  clear T
  go_enter Tryd.func3, Tryd.ntmps3
  go_wp2_with (go_at_call 4; refine HA.mono ?_; rintro e w2 ⟨rfl, hB, hT⟩; have HT : ∀ n, Calls Tryd.prog 5 #[.int .i64 4] (w2.drewN n) fun e w' => e = .returned (.string ⟨#[65, 68, 68]⟩) ∧ w' = w2.drewN n := fun n => Name_in 4 (by omega) (by omega) _ (hT.drewN n); clear hT)
  go_quiet ((go_at_call 5; exact Calls.quiet_of_same (HT _)))
  go_wp2
  go_ret
  exact ⟨by first | rfl | simp, below_dN hB _⟩
theorem law_5 (w : World) (T : Tab w) :
    Calls Tryd.prog 3 #[.int .i64 5] w fun e w' => e = .returned (.bool true) ∧ Below w.heap.size w w' := by
  have HA : Calls Tryd.prog 4 #[] w fun e w' => e = .returned (.bool true) ∧ Below w.heap.size w w' ∧ Tab w' := (awake_walk w T).mono fun e w' h => ⟨h.1, h.2, T.below h.2⟩
  have hidx : ∀ w : World, (Instr.index 24 (.agg #[.string ⟨#[]⟩, .string ⟨#[80, 85, 66, 76, 73, 83, 72]⟩, .string ⟨#[82, 69, 81, 85, 69, 83, 84]⟩, .string ⟨#[82, 69, 80, 76, 89]⟩, .string ⟨#[65, 68, 68]⟩, .string ⟨#[67, 65, 78, 67, 69, 76]⟩, .string ⟨#[82, 69, 70, 82, 69, 83, 72]⟩, .string ⟨#[67, 79, 85, 78, 84, 69, 82]⟩, .string ⟨#[68, 69, 67, 76, 73, 78, 69, 67, 79, 85, 78, 84, 69, 82]⟩]) (.int .i64 5)).run Tryd.prog w = .ok (.string ⟨#[67, 65, 78, 67, 69, 76]⟩) w := fun _ => by kernel_rfl
  have hnot : ∀ (x : Bool) (w : World), (Op.unary .not (.bool x)).run Tryd.prog w = .ok (.bool (!x)) w := fun _ _ => rfl
  clear T
  go_enter Tryd.func3, Tryd.ntmps3
  go_wp2_with (go_at_call 4; refine HA.mono ?_; rintro e w2 ⟨rfl, hB, hT⟩; have HT : ∀ n, Calls Tryd.prog 5 #[.int .i64 5] (w2.drewN n) fun e w' => e = .returned (.string ⟨#[67, 65, 78, 67, 69, 76]⟩) ∧ w' = w2.drewN n := fun n => Name_in 5 (by omega) (by omega) _ (hT.drewN n); clear hT)
  go_quiet ((go_at_call 5; exact Calls.quiet_of_same (HT _)))
  go_wp2
  go_ret
  exact ⟨by first | rfl | simp, below_dN hB _⟩
theorem law_6 (w : World) (T : Tab w) :
    Calls Tryd.prog 3 #[.int .i64 6] w fun e w' => e = .returned (.bool true) ∧ Below w.heap.size w w' := by
  have HA : Calls Tryd.prog 4 #[] w fun e w' => e = .returned (.bool true) ∧ Below w.heap.size w w' ∧ Tab w' := (awake_walk w T).mono fun e w' h => ⟨h.1, h.2, T.below h.2⟩
  have hidx : ∀ w : World, (Instr.index 24 (.agg #[.string ⟨#[]⟩, .string ⟨#[80, 85, 66, 76, 73, 83, 72]⟩, .string ⟨#[82, 69, 81, 85, 69, 83, 84]⟩, .string ⟨#[82, 69, 80, 76, 89]⟩, .string ⟨#[65, 68, 68]⟩, .string ⟨#[67, 65, 78, 67, 69, 76]⟩, .string ⟨#[82, 69, 70, 82, 69, 83, 72]⟩, .string ⟨#[67, 79, 85, 78, 84, 69, 82]⟩, .string ⟨#[68, 69, 67, 76, 73, 78, 69, 67, 79, 85, 78, 84, 69, 82]⟩]) (.int .i64 6)).run Tryd.prog w = .ok (.string ⟨#[82, 69, 70, 82, 69, 83, 72]⟩) w := fun _ => by kernel_rfl
  have hnot : ∀ (x : Bool) (w : World), (Op.unary .not (.bool x)).run Tryd.prog w = .ok (.bool (!x)) w := fun _ _ => rfl
  clear T
  go_enter Tryd.func3, Tryd.ntmps3
  go_wp2_with (go_at_call 4; refine HA.mono ?_; rintro e w2 ⟨rfl, hB, hT⟩; have HT : ∀ n, Calls Tryd.prog 5 #[.int .i64 6] (w2.drewN n) fun e w' => e = .returned (.string ⟨#[82, 69, 70, 82, 69, 83, 72]⟩) ∧ w' = w2.drewN n := fun n => Name_in 6 (by omega) (by omega) _ (hT.drewN n); clear hT)
  go_quiet ((go_at_call 5; exact Calls.quiet_of_same (HT _)))
  go_wp2
  go_ret
  exact ⟨by first | rfl | simp, below_dN hB _⟩
theorem law_7 (w : World) (T : Tab w) :
    Calls Tryd.prog 3 #[.int .i64 7] w fun e w' => e = .returned (.bool true) ∧ Below w.heap.size w w' := by
  have HA : Calls Tryd.prog 4 #[] w fun e w' => e = .returned (.bool true) ∧ Below w.heap.size w w' ∧ Tab w' := (awake_walk w T).mono fun e w' h => ⟨h.1, h.2, T.below h.2⟩
  have hidx : ∀ w : World, (Instr.index 24 (.agg #[.string ⟨#[]⟩, .string ⟨#[80, 85, 66, 76, 73, 83, 72]⟩, .string ⟨#[82, 69, 81, 85, 69, 83, 84]⟩, .string ⟨#[82, 69, 80, 76, 89]⟩, .string ⟨#[65, 68, 68]⟩, .string ⟨#[67, 65, 78, 67, 69, 76]⟩, .string ⟨#[82, 69, 70, 82, 69, 83, 72]⟩, .string ⟨#[67, 79, 85, 78, 84, 69, 82]⟩, .string ⟨#[68, 69, 67, 76, 73, 78, 69, 67, 79, 85, 78, 84, 69, 82]⟩]) (.int .i64 7)).run Tryd.prog w = .ok (.string ⟨#[67, 79, 85, 78, 84, 69, 82]⟩) w := fun _ => by kernel_rfl
  have hnot : ∀ (x : Bool) (w : World), (Op.unary .not (.bool x)).run Tryd.prog w = .ok (.bool (!x)) w := fun _ _ => rfl
  clear T
  go_enter Tryd.func3, Tryd.ntmps3
  go_wp2_with (go_at_call 4; refine HA.mono ?_; rintro e w2 ⟨rfl, hB, hT⟩; have HT : ∀ n, Calls Tryd.prog 5 #[.int .i64 7] (w2.drewN n) fun e w' => e = .returned (.string ⟨#[67, 79, 85, 78, 84, 69, 82]⟩) ∧ w' = w2.drewN n := fun n => Name_in 7 (by omega) (by omega) _ (hT.drewN n); clear hT)
  go_quiet ((go_at_call 5; exact Calls.quiet_of_same (HT _)))
  go_wp2
  go_ret
  exact ⟨by first | rfl | simp, below_dN hB _⟩
theorem law_8 (w : World) (T : Tab w) :
    Calls Tryd.prog 3 #[.int .i64 8] w fun e w' => e = .returned (.bool true) ∧ Below w.heap.size w w' := by
  have HA : Calls Tryd.prog 4 #[] w fun e w' => e = .returned (.bool true) ∧ Below w.heap.size w w' ∧ Tab w' := (awake_walk w T).mono fun e w' h => ⟨h.1, h.2, T.below h.2⟩
  have hidx : ∀ w : World, (Instr.index 24 (.agg #[.string ⟨#[]⟩, .string ⟨#[80, 85, 66, 76, 73, 83, 72]⟩, .string ⟨#[82, 69, 81, 85, 69, 83, 84]⟩, .string ⟨#[82, 69, 80, 76, 89]⟩, .string ⟨#[65, 68, 68]⟩, .string ⟨#[67, 65, 78, 67, 69, 76]⟩, .string ⟨#[82, 69, 70, 82, 69, 83, 72]⟩, .string ⟨#[67, 79, 85, 78, 84, 69, 82]⟩, .string ⟨#[68, 69, 67, 76, 73, 78, 69, 67, 79, 85, 78, 84, 69, 82]⟩]) (.int .i64 8)).run Tryd.prog w = .ok (.string ⟨#[68, 69, 67, 76, 73, 78, 69, 67, 79, 85, 78, 84, 69, 82]⟩) w := fun _ => by kernel_rfl
  have hnot : ∀ (x : Bool) (w : World), (Op.unary .not (.bool x)).run Tryd.prog w = .ok (.bool (!x)) w := fun _ _ => rfl
  clear T
  go_enter Tryd.func3, Tryd.ntmps3
  go_wp2_with (go_at_call 4; refine HA.mono ?_; rintro e w2 ⟨rfl, hB, hT⟩; have HT : ∀ n, Calls Tryd.prog 5 #[.int .i64 8] (w2.drewN n) fun e w' => e = .returned (.string ⟨#[68, 69, 67, 76, 73, 78, 69, 67, 79, 85, 78, 84, 69, 82]⟩) ∧ w' = w2.drewN n := fun n => Name_in 8 (by omega) (by omega) _ (hT.drewN n); clear hT)
  go_quiet ((go_at_call 5; exact Calls.quiet_of_same (HT _)))
  go_wp2
  go_ret
  exact ⟨by first | rfl | simp, below_dN hB _⟩
theorem law (n : Int) (w : World) (T : Tab w) (_ : (Lit.int .i64 n).wf = true) :
    Calls Tryd.prog 3 #[.int .i64 n] w fun e w' => e = .returned (.bool true) ∧ Below w.heap.size w w' := by
  by_cases h : n < 1 ∨ 8 < n
  · exact law_out n h w T
  · have : n = 1 ∨ n = 2 ∨ n = 3 ∨ n = 4 ∨ n = 5 ∨ n = 6 ∨ n = 7 ∨ n = 8 := by omega
    rcases this with rfl | rfl | rfl | rfl | rfl | rfl | rfl | rfl
    · exact law_1 w T
    · exact law_2 w T
    · exact law_3 w T
    · exact law_4 w T
    · exact law_5 w T
    · exact law_6 w T
    · exact law_7 w T
    · exact law_8 w T
end Go.Proofs.YtnapdaddlbnpiaaDoor.MNames
