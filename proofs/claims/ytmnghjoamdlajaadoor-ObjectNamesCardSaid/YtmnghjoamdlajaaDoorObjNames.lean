/- Role and State answer the names that the document tells: the walks of object.of, object.Role, object.State and of the law. -/
import Derived.Test.YtmnghjoamdlajaaDoorRows
import Derived.WalkKit
import Derived.WalkSpells
import Derived.BigQuiet
import Derived.Deep.QuietTactic
set_option linter.unusedVariables false
namespace Go.Proofs.YtmnghjoamdlajaaDoor.ObjNames
open Go.RowKit

def roleB (i : Nat) : ByteArray := match i with
  | 0 => ⟨#[82, 69, 81, 45, 80, 65, 82, 84, 73, 67, 73, 80, 65, 78, 84]⟩
  | 1 => ⟨#[79, 80, 84, 45, 80, 65, 82, 84, 73, 67, 73, 80, 65, 78, 84]⟩
  | 2 => ⟨#[78, 79, 78, 45, 80, 65, 82, 84, 73, 67, 73, 80, 65, 78, 84]⟩
  | 3 => ⟨#[67, 72, 65, 73, 82]⟩
  | _ => ⟨#[]⟩
def stateB (i : Nat) : ByteArray := match i with
  | 0 => ⟨#[78, 69, 69, 68, 83, 45, 65, 67, 84, 73, 79, 78]⟩
  | 1 => ⟨#[65, 67, 67, 69, 80, 84, 69, 68]⟩
  | 2 => ⟨#[68, 69, 67, 76, 73, 78, 69, 68]⟩
  | 3 => ⟨#[84, 69, 78, 84, 65, 84, 73, 86, 69]⟩
  | 4 => ⟨#[68, 69, 76, 69, 71, 65, 84, 69, 68]⟩
  | _ => ⟨#[]⟩
/-- The listed tables, read off the world. -/
structure Tab (w : World) : Prop where
  role : ∀ i, i < 4 → w.cell? ⟨0, i, none⟩ = some (.string (roleB i))
  state : ∀ i, i < 5 → w.cell? ⟨1, i, none⟩ = some (.string (stateB i))

theorem of_in (g : Nat) (n len c : Nat) (s : ByteArray) (w : World) (h : n < len) (hc : w.cell? ⟨g, n, none⟩ = some (.string s)) :
    Calls Tryd.prog 27 #[.slice (some ⟨g, 0, none⟩) len c, .int .i64 n] w fun e w' => e = .returned (.string s) ∧ w' = w := by
  have h1 : decide ((n : Int) < 0) = false := by simp
  have h2 : decide ((n : Int) ≥ (len : Int)) = false := by simp; omega
  go_enter Tryd.func27, Tryd.ntmps27
  go_wp2
  go_ret
  exact ⟨rfl, rfl⟩
theorem of_out (g : Nat) (n : Int) (len c : Nat) (w : World) (h : n < 0 ∨ (len : Int) ≤ n) :
    Calls Tryd.prog 27 #[.slice (some ⟨g, 0, none⟩) len c, .int .i64 n] w fun e w' => e = .returned (.string ⟨#[]⟩) ∧ w' = w := by
  by_cases h0 : n < 0
  · have h1 : decide (n < 0) = true := by simp [h0]
    go_enter Tryd.func27, Tryd.ntmps27
    go_wp2
    go_ret
    exact ⟨rfl, rfl⟩
  · have h1 : decide (n < 0) = false := by simp [h0]
    have h2 : decide ((len : Int) ≤ n) = true := by simp; omega
    go_enter Tryd.func27, Tryd.ntmps27
    go_wp2
    go_ret
    exact ⟨rfl, rfl⟩
theorem Role_in (n : Nat) (h : n < 4) (w : World) (T : Tab w) :
    Calls Tryd.prog 9 #[.int .i64 n] w fun e w' => e = .returned (.string (roleB n)) ∧ w' = w := by
  go_enter Tryd.func9, Tryd.ntmps9
  go_wp2_with (go_at_call 27; refine (of_in _ n 4 4 _ _ h (T.role n h)).mono ?_; rintro e w' ⟨rfl, rfl⟩)
  go_ret
  exact ⟨rfl, rfl⟩
theorem Role_out (n : Int) (h : n < 0 ∨ 4 ≤ n) (w : World) :
    Calls Tryd.prog 9 #[.int .i64 n] w fun e w' => e = .returned (.string ⟨#[]⟩) ∧ w' = w := by
  go_enter Tryd.func9, Tryd.ntmps9
  go_wp2_with (go_at_call 27; refine (of_out _ n 4 4 _ h).mono ?_; rintro e w' ⟨rfl, rfl⟩)
  go_ret
  exact ⟨rfl, rfl⟩
theorem State_in (n : Nat) (h : n < 5) (w : World) (T : Tab w) :
    Calls Tryd.prog 10 #[.int .i64 n] w fun e w' => e = .returned (.string (stateB n)) ∧ w' = w := by
  go_enter Tryd.func10, Tryd.ntmps10
  go_wp2_with (go_at_call 27; refine (of_in _ n 5 5 _ _ h (T.state n h)).mono ?_; rintro e w' ⟨rfl, rfl⟩)
  go_ret
  exact ⟨rfl, rfl⟩
theorem State_out (n : Int) (h : n < 0 ∨ 5 ≤ n) (w : World) :
    Calls Tryd.prog 10 #[.int .i64 n] w fun e w' => e = .returned (.string ⟨#[]⟩) ∧ w' = w := by
  go_enter Tryd.func10, Tryd.ntmps10
  go_wp2_with (go_at_call 27; refine (of_out _ n 5 5 _ h).mono ?_; rintro e w' ⟨rfl, rfl⟩)
  go_ret
  exact ⟨rfl, rfl⟩
theorem Role_0 (w : World) (T : Tab w) :
    Calls Tryd.prog 9 #[.int .i64 0] w fun e w' => e = .returned (.string ⟨#[82, 69, 81, 45, 80, 65, 82, 84, 73, 67, 73, 80, 65, 78, 84]⟩) ∧ w' = w := Role_in 0 (by decide) w T
theorem Role_1 (w : World) (T : Tab w) :
    Calls Tryd.prog 9 #[.int .i64 1] w fun e w' => e = .returned (.string ⟨#[79, 80, 84, 45, 80, 65, 82, 84, 73, 67, 73, 80, 65, 78, 84]⟩) ∧ w' = w := Role_in 1 (by decide) w T
theorem Role_2 (w : World) (T : Tab w) :
    Calls Tryd.prog 9 #[.int .i64 2] w fun e w' => e = .returned (.string ⟨#[78, 79, 78, 45, 80, 65, 82, 84, 73, 67, 73, 80, 65, 78, 84]⟩) ∧ w' = w := Role_in 2 (by decide) w T
theorem Role_3 (w : World) (T : Tab w) :
    Calls Tryd.prog 9 #[.int .i64 3] w fun e w' => e = .returned (.string ⟨#[67, 72, 65, 73, 82]⟩) ∧ w' = w := Role_in 3 (by decide) w T
theorem State_0 (w : World) (T : Tab w) :
    Calls Tryd.prog 10 #[.int .i64 0] w fun e w' => e = .returned (.string ⟨#[78, 69, 69, 68, 83, 45, 65, 67, 84, 73, 79, 78]⟩) ∧ w' = w := State_in 0 (by decide) w T
theorem State_1 (w : World) (T : Tab w) :
    Calls Tryd.prog 10 #[.int .i64 1] w fun e w' => e = .returned (.string ⟨#[65, 67, 67, 69, 80, 84, 69, 68]⟩) ∧ w' = w := State_in 1 (by decide) w T
theorem State_2 (w : World) (T : Tab w) :
    Calls Tryd.prog 10 #[.int .i64 2] w fun e w' => e = .returned (.string ⟨#[68, 69, 67, 76, 73, 78, 69, 68]⟩) ∧ w' = w := State_in 2 (by decide) w T
theorem State_3 (w : World) (T : Tab w) :
    Calls Tryd.prog 10 #[.int .i64 3] w fun e w' => e = .returned (.string ⟨#[84, 69, 78, 84, 65, 84, 73, 86, 69]⟩) ∧ w' = w := State_in 3 (by decide) w T
theorem State_4 (w : World) (T : Tab w) :
    Calls Tryd.prog 10 #[.int .i64 4] w fun e w' => e = .returned (.string ⟨#[68, 69, 76, 69, 71, 65, 84, 69, 68]⟩) ∧ w' = w := State_in 4 (by decide) w T
theorem Role_4 (w : World) :
    Calls Tryd.prog 9 #[.int .i64 4] w fun e w' => e = .returned (.string ⟨#[]⟩) ∧ w' = w := Role_out 4 (.inr (by decide)) w
set_option maxRecDepth 100000 in
theorem awake_any (w : World) (T : Tab w) :
    Calls Tryd.prog 8 #[] w fun e w' => e = .returned (.bool true) ∧ w' = w := by
  go_enter Tryd.func8, Tryd.ntmps8
  go_wp2_with (first | (go_at_call 10; refine (State_1 _ T).mono ?_; rintro e w' ⟨rfl, rfl⟩) | (go_at_call 9; refine (Role_3 _ T).mono ?_; rintro e w' ⟨rfl, rfl⟩))
  go_ret
  exact ⟨rfl, rfl⟩
theorem law_neg (n : Int) (w : World) (T : Tab w) (h : n < 0) :
    Calls Tryd.prog 3 #[.int .i64 n] w fun e w' => e = .returned (.bool true) ∧ w' = w := by
  have h1 : decide (n ≥ 0) = false := by simp; omega
  have h2 : decide (0 ≤ n) = false := by simp; omega
  go_enter Tryd.func3, Tryd.ntmps3
  go_wp2_with (first | (go_at_call 8; refine (awake_any _ T).mono ?_; rintro e w' ⟨rfl, rfl⟩) | (go_at_call 10; refine (State_out n (.inl h) _).mono ?_; rintro e w' ⟨rfl, rfl⟩) | (go_at_call 9; refine (Role_out n (.inl h) _).mono ?_; rintro e w' ⟨rfl, rfl⟩))
  go_ret
  exact ⟨rfl, rfl⟩
theorem law_big (n : Int) (w : World) (T : Tab w) (h : 5 ≤ n) :
    Calls Tryd.prog 3 #[.int .i64 n] w fun e w' => e = .returned (.bool true) ∧ w' = w := by
  have h1 : decide (0 ≤ n) = true := by simp; omega
  have h2 : decide (n < 4) = false := by simp; omega
  have h3 : decide (n < 5) = false := by simp; omega
  go_enter Tryd.func3, Tryd.ntmps3
  go_wp2_with (first | (go_at_call 8; refine (awake_any _ T).mono ?_; rintro e w' ⟨rfl, rfl⟩) | (go_at_call 10; refine (State_out n (.inr h) _).mono ?_; rintro e w' ⟨rfl, rfl⟩) | (go_at_call 9; refine (Role_out n (.inr (by omega)) _).mono ?_; rintro e w' ⟨rfl, rfl⟩))
  go_ret
  exact ⟨rfl, rfl⟩
set_option maxRecDepth 100000 in
theorem law_0 (w : World) (T : Tab w) :
    Calls Tryd.prog 3 #[.int .i64 0] w fun e w' => e = .returned (.bool true) ∧ w' = w := by
  have ix : ∀ w, (Instr.index 23 (.agg #[.string ⟨#[82, 69, 81, 45, 80, 65, 82, 84, 73, 67, 73, 80, 65, 78, 84]⟩, .string ⟨#[79, 80, 84, 45, 80, 65, 82, 84, 73, 67, 73, 80, 65, 78, 84]⟩, .string ⟨#[78, 79, 78, 45, 80, 65, 82, 84, 73, 67, 73, 80, 65, 78, 84]⟩, .string ⟨#[67, 72, 65, 73, 82]⟩]) (.int .i64 0)).run Tryd.prog w = .ok (.string ⟨#[82, 69, 81, 45, 80, 65, 82, 84, 73, 67, 73, 80, 65, 78, 84]⟩) w := fun _ => by kernel_rfl
  have iy : ∀ w, (Instr.index 24 (.agg #[.string ⟨#[78, 69, 69, 68, 83, 45, 65, 67, 84, 73, 79, 78]⟩, .string ⟨#[65, 67, 67, 69, 80, 84, 69, 68]⟩, .string ⟨#[68, 69, 67, 76, 73, 78, 69, 68]⟩, .string ⟨#[84, 69, 78, 84, 65, 84, 73, 86, 69]⟩, .string ⟨#[68, 69, 76, 69, 71, 65, 84, 69, 68]⟩]) (.int .i64 0)).run Tryd.prog w = .ok (.string ⟨#[78, 69, 69, 68, 83, 45, 65, 67, 84, 73, 79, 78]⟩) w := fun _ => by kernel_rfl
  go_enter Tryd.func3, Tryd.ntmps3
  go_wp2_with (first | (go_at_call 8; refine (awake_any _ T).mono ?_; rintro e w' ⟨rfl, rfl⟩) | (go_at_call 10; refine (State_0 _ T).mono ?_; rintro e w' ⟨rfl, rfl⟩) | (go_at_call 9; refine (Role_0 _ T).mono ?_; rintro e w' ⟨rfl, rfl⟩))
  go_ret
  exact ⟨rfl, rfl⟩
set_option maxRecDepth 100000 in
theorem law_1 (w : World) (T : Tab w) :
    Calls Tryd.prog 3 #[.int .i64 1] w fun e w' => e = .returned (.bool true) ∧ w' = w := by
  have ix : ∀ w, (Instr.index 23 (.agg #[.string ⟨#[82, 69, 81, 45, 80, 65, 82, 84, 73, 67, 73, 80, 65, 78, 84]⟩, .string ⟨#[79, 80, 84, 45, 80, 65, 82, 84, 73, 67, 73, 80, 65, 78, 84]⟩, .string ⟨#[78, 79, 78, 45, 80, 65, 82, 84, 73, 67, 73, 80, 65, 78, 84]⟩, .string ⟨#[67, 72, 65, 73, 82]⟩]) (.int .i64 1)).run Tryd.prog w = .ok (.string ⟨#[79, 80, 84, 45, 80, 65, 82, 84, 73, 67, 73, 80, 65, 78, 84]⟩) w := fun _ => by kernel_rfl
  have iy : ∀ w, (Instr.index 24 (.agg #[.string ⟨#[78, 69, 69, 68, 83, 45, 65, 67, 84, 73, 79, 78]⟩, .string ⟨#[65, 67, 67, 69, 80, 84, 69, 68]⟩, .string ⟨#[68, 69, 67, 76, 73, 78, 69, 68]⟩, .string ⟨#[84, 69, 78, 84, 65, 84, 73, 86, 69]⟩, .string ⟨#[68, 69, 76, 69, 71, 65, 84, 69, 68]⟩]) (.int .i64 1)).run Tryd.prog w = .ok (.string ⟨#[65, 67, 67, 69, 80, 84, 69, 68]⟩) w := fun _ => by kernel_rfl
  go_enter Tryd.func3, Tryd.ntmps3
  go_wp2_with (first | (go_at_call 8; refine (awake_any _ T).mono ?_; rintro e w' ⟨rfl, rfl⟩) | (go_at_call 10; refine (State_1 _ T).mono ?_; rintro e w' ⟨rfl, rfl⟩) | (go_at_call 9; refine (Role_1 _ T).mono ?_; rintro e w' ⟨rfl, rfl⟩))
  go_ret
  exact ⟨rfl, rfl⟩
set_option maxRecDepth 100000 in
theorem law_2 (w : World) (T : Tab w) :
    Calls Tryd.prog 3 #[.int .i64 2] w fun e w' => e = .returned (.bool true) ∧ w' = w := by
  have ix : ∀ w, (Instr.index 23 (.agg #[.string ⟨#[82, 69, 81, 45, 80, 65, 82, 84, 73, 67, 73, 80, 65, 78, 84]⟩, .string ⟨#[79, 80, 84, 45, 80, 65, 82, 84, 73, 67, 73, 80, 65, 78, 84]⟩, .string ⟨#[78, 79, 78, 45, 80, 65, 82, 84, 73, 67, 73, 80, 65, 78, 84]⟩, .string ⟨#[67, 72, 65, 73, 82]⟩]) (.int .i64 2)).run Tryd.prog w = .ok (.string ⟨#[78, 79, 78, 45, 80, 65, 82, 84, 73, 67, 73, 80, 65, 78, 84]⟩) w := fun _ => by kernel_rfl
  have iy : ∀ w, (Instr.index 24 (.agg #[.string ⟨#[78, 69, 69, 68, 83, 45, 65, 67, 84, 73, 79, 78]⟩, .string ⟨#[65, 67, 67, 69, 80, 84, 69, 68]⟩, .string ⟨#[68, 69, 67, 76, 73, 78, 69, 68]⟩, .string ⟨#[84, 69, 78, 84, 65, 84, 73, 86, 69]⟩, .string ⟨#[68, 69, 76, 69, 71, 65, 84, 69, 68]⟩]) (.int .i64 2)).run Tryd.prog w = .ok (.string ⟨#[68, 69, 67, 76, 73, 78, 69, 68]⟩) w := fun _ => by kernel_rfl
  go_enter Tryd.func3, Tryd.ntmps3
  go_wp2_with (first | (go_at_call 8; refine (awake_any _ T).mono ?_; rintro e w' ⟨rfl, rfl⟩) | (go_at_call 10; refine (State_2 _ T).mono ?_; rintro e w' ⟨rfl, rfl⟩) | (go_at_call 9; refine (Role_2 _ T).mono ?_; rintro e w' ⟨rfl, rfl⟩))
  go_ret
  exact ⟨rfl, rfl⟩
set_option maxRecDepth 100000 in
theorem law_3 (w : World) (T : Tab w) :
    Calls Tryd.prog 3 #[.int .i64 3] w fun e w' => e = .returned (.bool true) ∧ w' = w := by
  have ix : ∀ w, (Instr.index 23 (.agg #[.string ⟨#[82, 69, 81, 45, 80, 65, 82, 84, 73, 67, 73, 80, 65, 78, 84]⟩, .string ⟨#[79, 80, 84, 45, 80, 65, 82, 84, 73, 67, 73, 80, 65, 78, 84]⟩, .string ⟨#[78, 79, 78, 45, 80, 65, 82, 84, 73, 67, 73, 80, 65, 78, 84]⟩, .string ⟨#[67, 72, 65, 73, 82]⟩]) (.int .i64 3)).run Tryd.prog w = .ok (.string ⟨#[67, 72, 65, 73, 82]⟩) w := fun _ => by kernel_rfl
  have iy : ∀ w, (Instr.index 24 (.agg #[.string ⟨#[78, 69, 69, 68, 83, 45, 65, 67, 84, 73, 79, 78]⟩, .string ⟨#[65, 67, 67, 69, 80, 84, 69, 68]⟩, .string ⟨#[68, 69, 67, 76, 73, 78, 69, 68]⟩, .string ⟨#[84, 69, 78, 84, 65, 84, 73, 86, 69]⟩, .string ⟨#[68, 69, 76, 69, 71, 65, 84, 69, 68]⟩]) (.int .i64 3)).run Tryd.prog w = .ok (.string ⟨#[84, 69, 78, 84, 65, 84, 73, 86, 69]⟩) w := fun _ => by kernel_rfl
  go_enter Tryd.func3, Tryd.ntmps3
  go_wp2_with (first | (go_at_call 8; refine (awake_any _ T).mono ?_; rintro e w' ⟨rfl, rfl⟩) | (go_at_call 10; refine (State_3 _ T).mono ?_; rintro e w' ⟨rfl, rfl⟩) | (go_at_call 9; refine (Role_3 _ T).mono ?_; rintro e w' ⟨rfl, rfl⟩))
  go_ret
  exact ⟨rfl, rfl⟩
set_option maxRecDepth 100000 in
theorem law_4 (w : World) (T : Tab w) :
    Calls Tryd.prog 3 #[.int .i64 4] w fun e w' => e = .returned (.bool true) ∧ w' = w := by
  have iy : ∀ w, (Instr.index 24 (.agg #[.string ⟨#[78, 69, 69, 68, 83, 45, 65, 67, 84, 73, 79, 78]⟩, .string ⟨#[65, 67, 67, 69, 80, 84, 69, 68]⟩, .string ⟨#[68, 69, 67, 76, 73, 78, 69, 68]⟩, .string ⟨#[84, 69, 78, 84, 65, 84, 73, 86, 69]⟩, .string ⟨#[68, 69, 76, 69, 71, 65, 84, 69, 68]⟩]) (.int .i64 4)).run Tryd.prog w = .ok (.string ⟨#[68, 69, 76, 69, 71, 65, 84, 69, 68]⟩) w := fun _ => by kernel_rfl
  go_enter Tryd.func3, Tryd.ntmps3
  go_wp2_with (first | (go_at_call 8; refine (awake_any _ T).mono ?_; rintro e w' ⟨rfl, rfl⟩) | (go_at_call 10; refine (State_4 _ T).mono ?_; rintro e w' ⟨rfl, rfl⟩) | (go_at_call 9; refine (Role_4 _).mono ?_; rintro e w' ⟨rfl, rfl⟩))
  go_ret
  exact ⟨rfl, rfl⟩
theorem law_any (n : Int) (w : World) (T : Tab w) :
    Calls Tryd.prog 3 #[.int .i64 n] w fun e w' => e = .returned (.bool true) ∧ w' = w := by
  by_cases h : n < 0
  · exact law_neg n w T h
  · by_cases h5 : 5 ≤ n
    · exact law_big n w T h5
    · obtain rfl | rfl | rfl | rfl | rfl : n = 0 ∨ n = 1 ∨ n = 2 ∨ n = 3 ∨ n = 4 := by omega
      · exact law_0 w T
      · exact law_1 w T
      · exact law_2 w T
      · exact law_3 w T
      · exact law_4 w T
end Go.Proofs.YtmnghjoamdlajaaDoor.ObjNames
