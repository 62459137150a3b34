/- status.rows and status.class, walked; the document's classes. -/
import Derived.Test.YtdlfnhobnijdjaaDoorSIs
import Derived.Deep.LoopGhost
import Derived.BigQuiet
import Derived.Deep.QuietTactic
import Derived.Below
set_option linter.unusedVariables false
set_option linter.unusedSimpArgs false
namespace Go.Proofs.YtdlfnhobnijdjaaDoor.Sts
open Go.RowKit Go.Extern.Stop Go.Stop Go.Extern

structure Aside0 (p : Prop) : Prop where
  out : p
def cls (i : Nat) : ByteArray := match i with
  | 0 => ⟨#[50, 46, 48]⟩
  | 1 => ⟨#[50, 46, 56]⟩
  | 2 => ⟨#[51, 46, 48]⟩
  | 3 => ⟨#[51, 46, 50]⟩
  | 4 => ⟨#[51, 46, 55]⟩
  | 5 => ⟨#[51, 46, 56]⟩
  | 6 => ⟨#[51, 46, 49, 48]⟩
  | 7 => ⟨#[51, 46, 49, 52]⟩
  | _ => ⟨#[53, 46, 49]⟩
def ers (i : Nat) : List Int := match i with
  | 0 => [0]
  | 1 => [14]
  | 2 => [3, 5, 6, 8]
  | 3 => [18]
  | 4 => [15]
  | 5 => [16]
  | 6 => [4, 9]
  | 7 => [13]
  | _ => [17]
def clsFrom : Nat → Nat → Int → ByteArray
  | 0, _, _ => ⟨#[51, 46, 49]⟩
  | n + 1, i, e => if (ers i).contains e = true then cls i else clsFrom n (i + 1) e
def clsOf (e : Int) : ByteArray := clsFrom 9 0 e
structure RowAt (b i : Nat) (w : World) : Prop where
  name : w.cell? ⟨b, i * 2, none⟩ = some (.string (cls i))
  list : ∃ c, w.cell? ⟨b, i * 2 + 1, none⟩ = some (.slice (some ⟨c, 0, none⟩) (ers i).length (ers i).length) ∧ c < w.heap.size ∧ ∀ j, j < (ers i).length → w.cell? ⟨c, j, none⟩ = some (.int .i64 ((ers i).getD j 0))
theorem cell_lt {w : World} {a : Addr} {v : Value} (h : w.cell? a = some v) : a.block < w.heap.size := by
  rcases Nat.lt_or_ge a.block w.heap.size with h9 | h9
  · exact h9
  · simp [World.cell?, Array.getElem?_eq_none h9] at h
theorem RowAt.below {b i : Nat} {w w' : World} (h : RowAt b i w) (hb : Below w.heap.size w w') : RowAt b i w' := by
  obtain ⟨h1, c, h2, h3, h4⟩ := h
  refine ⟨(hb.cell (cell_lt h1)).trans h1, c, (hb.cell (cell_lt h2)).trans h2, Nat.lt_of_lt_of_le h3 hb.size, fun j hj => (hb.cell h3).trans (h4 j hj)⟩
set_option maxHeartbeats 4000000 in
theorem rows_walk (w : World) :
    Calls Tryd.prog 10 #[] w fun e w' => ∃ b, e = .returned (.slice (some ⟨b, 0, none⟩) 9 9) ∧ (∀ i, i < 9 → RowAt b i w') ∧ Below w.heap.size w w' := by
  go_enter Tryd.func10, Tryd.ntmps10
  go_wp2
  go_ret
  refine ⟨_, rfl, fun i hi => ?_, ?_⟩
  · have hc : i = 0 ∨ i = 1 ∨ i = 2 ∨ i = 3 ∨ i = 4 ∨ i = 5 ∨ i = 6 ∨ i = 7 ∨ i = 8 := by omega
    rcases hc with rfl | rfl | rfl | rfl | rfl | rfl | rfl | rfl | rfl
    · refine ⟨by rw [World.cell?_alloc_at _ _ _ _ (by simp)]; rfl, _, by rw [World.cell?_alloc_at _ _ _ _ (by simp)]; rfl, by simp <;> omega, fun j hj => ?_⟩
      rw [World.cell?_alloc_lt _ _ _ (by simp <;> omega), World.cell?_alloc_lt _ _ _ (by simp <;> omega), World.cell?_alloc_lt _ _ _ (by simp <;> omega), World.cell?_alloc_lt _ _ _ (by simp <;> omega), World.cell?_alloc_lt _ _ _ (by simp <;> omega), World.cell?_alloc_lt _ _ _ (by simp <;> omega), World.cell?_alloc_lt _ _ _ (by simp <;> omega), World.cell?_alloc_lt _ _ _ (by simp <;> omega), World.cell?_alloc_lt _ _ _ (by simp <;> omega), World.cell?_alloc_at _ _ _ _ (by simp)]
      simp only [ers, List.length_cons, List.length_nil] at hj
      have hj2 : j = 0 := by omega
      rcases hj2 with rfl
      all_goals rfl
    · refine ⟨by rw [World.cell?_alloc_at _ _ _ _ (by simp)]; rfl, _, by rw [World.cell?_alloc_at _ _ _ _ (by simp)]; rfl, by simp <;> omega, fun j hj => ?_⟩
      rw [World.cell?_alloc_lt _ _ _ (by simp <;> omega), World.cell?_alloc_lt _ _ _ (by simp <;> omega), World.cell?_alloc_lt _ _ _ (by simp <;> omega), World.cell?_alloc_lt _ _ _ (by simp <;> omega), World.cell?_alloc_lt _ _ _ (by simp <;> omega), World.cell?_alloc_lt _ _ _ (by simp <;> omega), World.cell?_alloc_lt _ _ _ (by simp <;> omega), World.cell?_alloc_lt _ _ _ (by simp <;> omega), World.cell?_alloc_at _ _ _ _ (by simp)]
      simp only [ers, List.length_cons, List.length_nil] at hj
      have hj2 : j = 0 := by omega
      rcases hj2 with rfl
      all_goals rfl
    · refine ⟨by rw [World.cell?_alloc_at _ _ _ _ (by simp)]; rfl, _, by rw [World.cell?_alloc_at _ _ _ _ (by simp)]; rfl, by simp <;> omega, fun j hj => ?_⟩
      rw [World.cell?_alloc_lt _ _ _ (by simp <;> omega), World.cell?_alloc_lt _ _ _ (by simp <;> omega), World.cell?_alloc_lt _ _ _ (by simp <;> omega), World.cell?_alloc_lt _ _ _ (by simp <;> omega), World.cell?_alloc_lt _ _ _ (by simp <;> omega), World.cell?_alloc_lt _ _ _ (by simp <;> omega), World.cell?_alloc_lt _ _ _ (by simp <;> omega), World.cell?_alloc_at _ _ _ _ (by simp)]
      simp only [ers, List.length_cons, List.length_nil] at hj
      have hj2 : j = 0 ∨ j = 1 ∨ j = 2 ∨ j = 3 := by omega
      rcases hj2 with rfl | rfl | rfl | rfl
      all_goals rfl
    · refine ⟨by rw [World.cell?_alloc_at _ _ _ _ (by simp)]; rfl, _, by rw [World.cell?_alloc_at _ _ _ _ (by simp)]; rfl, by simp <;> omega, fun j hj => ?_⟩
      rw [World.cell?_alloc_lt _ _ _ (by simp <;> omega), World.cell?_alloc_lt _ _ _ (by simp <;> omega), World.cell?_alloc_lt _ _ _ (by simp <;> omega), World.cell?_alloc_lt _ _ _ (by simp <;> omega), World.cell?_alloc_lt _ _ _ (by simp <;> omega), World.cell?_alloc_lt _ _ _ (by simp <;> omega), World.cell?_alloc_at _ _ _ _ (by simp)]
      simp only [ers, List.length_cons, List.length_nil] at hj
      have hj2 : j = 0 := by omega
      rcases hj2 with rfl
      all_goals rfl
    · refine ⟨by rw [World.cell?_alloc_at _ _ _ _ (by simp)]; rfl, _, by rw [World.cell?_alloc_at _ _ _ _ (by simp)]; rfl, by simp <;> omega, fun j hj => ?_⟩
      rw [World.cell?_alloc_lt _ _ _ (by simp <;> omega), World.cell?_alloc_lt _ _ _ (by simp <;> omega), World.cell?_alloc_lt _ _ _ (by simp <;> omega), World.cell?_alloc_lt _ _ _ (by simp <;> omega), World.cell?_alloc_lt _ _ _ (by simp <;> omega), World.cell?_alloc_at _ _ _ _ (by simp)]
      simp only [ers, List.length_cons, List.length_nil] at hj
      have hj2 : j = 0 := by omega
      rcases hj2 with rfl
      all_goals rfl
    · refine ⟨by rw [World.cell?_alloc_at _ _ _ _ (by simp)]; rfl, _, by rw [World.cell?_alloc_at _ _ _ _ (by simp)]; rfl, by simp <;> omega, fun j hj => ?_⟩
      rw [World.cell?_alloc_lt _ _ _ (by simp <;> omega), World.cell?_alloc_lt _ _ _ (by simp <;> omega), World.cell?_alloc_lt _ _ _ (by simp <;> omega), World.cell?_alloc_lt _ _ _ (by simp <;> omega), World.cell?_alloc_at _ _ _ _ (by simp)]
      simp only [ers, List.length_cons, List.length_nil] at hj
      have hj2 : j = 0 := by omega
      rcases hj2 with rfl
      all_goals rfl
    · refine ⟨by rw [World.cell?_alloc_at _ _ _ _ (by simp)]; rfl, _, by rw [World.cell?_alloc_at _ _ _ _ (by simp)]; rfl, by simp <;> omega, fun j hj => ?_⟩
      rw [World.cell?_alloc_lt _ _ _ (by simp <;> omega), World.cell?_alloc_lt _ _ _ (by simp <;> omega), World.cell?_alloc_lt _ _ _ (by simp <;> omega), World.cell?_alloc_at _ _ _ _ (by simp)]
      simp only [ers, List.length_cons, List.length_nil] at hj
      have hj2 : j = 0 ∨ j = 1 := by omega
      rcases hj2 with rfl | rfl
      all_goals rfl
    · refine ⟨by rw [World.cell?_alloc_at _ _ _ _ (by simp)]; rfl, _, by rw [World.cell?_alloc_at _ _ _ _ (by simp)]; rfl, by simp <;> omega, fun j hj => ?_⟩
      rw [World.cell?_alloc_lt _ _ _ (by simp <;> omega), World.cell?_alloc_lt _ _ _ (by simp <;> omega), World.cell?_alloc_at _ _ _ _ (by simp)]
      simp only [ers, List.length_cons, List.length_nil] at hj
      have hj2 : j = 0 := by omega
      rcases hj2 with rfl
      all_goals rfl
    · refine ⟨by rw [World.cell?_alloc_at _ _ _ _ (by simp)]; rfl, _, by rw [World.cell?_alloc_at _ _ _ _ (by simp)]; rfl, by simp <;> omega, fun j hj => ?_⟩
      rw [World.cell?_alloc_lt _ _ _ (by simp <;> omega), World.cell?_alloc_at _ _ _ _ (by simp)]
      simp only [ers, List.length_cons, List.length_nil] at hj
      have hj2 : j = 0 := by omega
      rcases hj2 with rfl
      all_goals rfl
  · exact ((((((((((Below.refl _ _).alloc (Nat.le_refl _) _).alloc (by simp) _).alloc (by simp <;> omega) _).alloc (by simp <;> omega) _).alloc (by simp <;> omega) _).alloc (by simp <;> omega) _).alloc (by simp <;> omega) _).alloc (by simp <;> omega) _).alloc (by simp <;> omega) _).alloc (by simp <;> omega) _
end Go.Proofs.YtdlfnhobnijdjaaDoor.Sts
