/- strings.NewReplacer, as escape.Param calls it, walked. -/
import Derived.Test.YtknmbalhbecdhaaDoorReplL
set_option linter.unusedVariables false
set_option linter.unusedSimpArgs false
namespace Go.Proofs.YtknmbalhbecdhaaDoor.Print
open Go.RowKit Go.Proofs.YtknmbalhbecdhaaDoorW.PrintWords Go.Proofs.YtknmbalhbecdhaaDoorW.PrintLast Go.Proofs.YtknmbalhbecdhaaDoorW.PrintMore
/-- The six strings of a replacer. -/
structure Six (b : Nat) (w : World) : Prop where
  h0 : w.cell? ⟨b, 0, none⟩ = some (.string ⟨#[94]⟩)
  h1 : w.cell? ⟨b, 1, none⟩ = some (.string ⟨#[94, 94]⟩)
  h2 : w.cell? ⟨b, 2, none⟩ = some (.string ⟨#[10]⟩)
  h3 : w.cell? ⟨b, 3, none⟩ = some (.string ⟨#[94, 110]⟩)
  h4 : w.cell? ⟨b, 4, none⟩ = some (.string ⟨#[34]⟩)
  h5 : w.cell? ⟨b, 5, none⟩ = some (.string ⟨#[94, 39]⟩)
/-- A new replacer: not built yet. -/
structure RN (p c cap : Nat) (w : World) : Prop where
  blk : w.heap[p]? = some (.cells #[.int .u32 0, .int .i32 0, .int .u32 0, .nilIface, .slice (some ⟨c, 0, none⟩) 6 cap] 107 (0, 0))
  six : Six c w
theorem allocAt (w : World) (o : Obj) : (w.alloc o).heap[w.heap.size]? = some o := by simp only [World.alloc, Array.getElem?_push_size]
theorem new_walk (b : Nat) (w : World) (h : Six b w) :
    Calls Tryd.prog 48 #[.slice (some ⟨b, 0, none⟩) 6 6] w fun e w' => ∃ p c cap : Nat, e = .returned (.pointer (some ⟨p, 0, none⟩)) ∧ RN p c cap w' ∧ w.heap.size ≤ c ∧ c < p ∧ Below w.heap.size w w' := by
  obtain ⟨h0, h1, h2, h3, h4, h5⟩ := h
  go_enter Tryd.func48, Tryd.ntmps48
  go_wp2
  go_ret
  refine ⟨w.heap.size + 1, w.heap.size, (Question.appendCap 6 0 9).cut (w.tape w.drawn (Question.appendCap 6 0 9)), by first | rfl | simp, ⟨?_, ?_⟩, Nat.le_refl _, Nat.lt_succ_self _, ?_⟩
  · have := allocAt (w.alloc (.cells (#[.string ⟨#[94]⟩, .string ⟨#[94, 94]⟩, .string ⟨#[10]⟩, .string ⟨#[94, 110]⟩, .string ⟨#[34]⟩, .string ⟨#[94, 39]⟩] ++ Builtin.zeroCells #[.string ⟨#[]⟩] ((Question.appendCap 6 0 9).cut (w.tape w.drawn (Question.appendCap 6 0 9)) - 6)) 9)) (.cells #[.int .u32 0, .int .i32 0, .int .u32 0, .nilIface, .slice (some ⟨w.heap.size, 0, none⟩) 6 ((Question.appendCap 6 0 9).cut (w.tape w.drawn (Question.appendCap 6 0 9)))] 107)
    rw [World.size_alloc] at this
    exact this
  · constructor
    all_goals
      rw [World.cell?_drew, World.cell?_alloc_lt _ _ _ (by simp), World.cell?_alloc_at _ _ _ _ rfl, Array.getElem?_append_left (by simp)]
      rfl
  · exact below_drew (((Below.refl _ _).alloc (Nat.le_refl _) _).alloc (by simp) _)
end Go.Proofs.YtknmbalhbecdhaaDoor.Print
