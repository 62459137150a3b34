/- (*strings.Replacer).Replace at escape.Param's six strings, walked: sync.Once, done for the first time, the lock free; then the table's Replace. -/
import Derived.Test.YtknmbalhbecdhaaDoorReplB
import Derived.Tactics
import Derived.Tactics2
import Derived.Defers
import Derived.Laws.Pointers
import Derived.Laws.LoneSync
import Derived.RegionTactic
import Derived.RegionCalls
set_option linter.unusedVariables false
set_option linter.unusedSimpArgs false
namespace Go.Proofs.YtknmbalhbecdhaaDoor.Print
open Go.RowKit Go.Proofs.YtknmbalhbecdhaaDoorW.PrintWords Go.Proofs.YtknmbalhbecdhaaDoorW.PrintLast Go.Proofs.YtknmbalhbecdhaaDoorW.PrintMore

theorem on_disable (w : World) : (callFunc 115 #[]).run Tryd.prog w = .ok (.value (.tuple #[])) w := run_call_mark0 Tryd.func115 (by kernel_rfl) (by kernel_rfl) (by kernel_rfl) .disable (by kernel_rfl) w
theorem on_enable (w : World) : (callFunc 117 #[]).run Tryd.prog w = .ok (.value (.tuple #[])) w := run_call_mark0 Tryd.func117 (by kernel_rfl) (by kernel_rfl) (by kernel_rfl) .enable (by kernel_rfl) w
theorem on_acquire (a : Addr) (w : World) : (callFunc 118 #[.pointer (some a)]).run Tryd.prog w = .ok (.value (.tuple #[])) w := run_call_marked Tryd.func118 (by kernel_rfl) (by kernel_rfl) (by kernel_rfl) .acquire (by kernel_rfl) a w
theorem on_releaseMerge (a : Addr) (w : World) : (callFunc 120 #[.pointer (some a)]).run Tryd.prog w = .ok (.value (.tuple #[])) w := run_call_marked Tryd.func120 (by kernel_rfl) (by kernel_rfl) (by kernel_rfl) .releaseMerge (by kernel_rfl) a w

theorem on_store_deferred (a : Addr) (x : Value) (u : FrameMode) (w : World) (hc : w.cell? a = some x) (hz : w.frozen? a = false) :
    CallsD Tryd.prog 104 #[.pointer (some a), .bool true] u w fun e u' w' => u' = u ∧ (e = .returned (.tuple #[]) ∧ w' = w.drew.setCell a (.int .u32 1)) := by
  have hc' : w.drew.cell? a = some x := by go_simp
  have hz' : w.drew.frozen? a = false := by go_simp
  have hst := run_call_store (P := Tryd.prog) Tryd.func110 (by kernel_rfl) (by kernel_rfl) (by kernel_rfl) (by kernel_rfl) (k := .u32) (y := 1) hc' hz'
  go_enter_d Tryd.func104, Tryd.ntmps104
  go_wp2
  go_region_calls
  all_goals (go_end0; exact ⟨rfl, rfl⟩)

set_option maxRecDepth 100000 in
theorem on_lock_in (a : Addr) (w : World) (hc : w.cell? a = some (.int .i32 0)) (hz : w.frozen? a = false) :
    Calls Tryd.prog 108 #[.pointer (some a)] w fun e w' => e = .returned (.tuple #[]) ∧ w' = w.setCell a (.int .i32 1) := by
  have hd := on_disable
  have he := on_enable
  have ha := on_acquire
  have hcas := run_call_cas_hit (P := Tryd.prog) Tryd.func116 (by kernel_rfl) (by kernel_rfl) (by kernel_rfl) .i32 (by kernel_rfl) (y := 1) hc hz
  have hc' : (w.setCell a (.int .i32 1)).cell? a = some (.int .i32 1) := World.cell?_setCell_same w a _ hc
  have hcv := run_convert_to_unsafe (P := Tryd.prog) (src := 172) (dst := 133) Tryd.underlying172 Tryd.underlying133 (by kernel_rfl) hc'
  go_enter Tryd.func108, Tryd.ntmps108
  go_wp2
  first | go_end0 | (simp only [Exit.inBlock, Exit.then]; refine bodyPost_ret (results_none rfl _ _ _) rfl ?_) | refine bodyPost_ret (results_none rfl _ _ _) rfl ?_
  exact ⟨rfl, rfl⟩
theorem on_lock (a : Addr) (w : World) (hc : w.cell? a = some (.int .i32 0)) (hz : w.frozen? a = false) :
    Calls Tryd.prog 102 #[.pointer (some a)] w fun e w' => e = .returned (.tuple #[]) ∧ w' = w.setCell a (.int .i32 1) := by
  go_enter Tryd.func102, Tryd.ntmps102
  go_wp2_with (go_at_call 108; refine (on_lock_in a _ hc hz).mono ?_; rintro e w' ⟨rfl, rfl⟩)
  go_end0
  exact ⟨rfl, rfl⟩
set_option maxRecDepth 100000 in
theorem on_unlock_in (a : Addr) (w : World) (hc : w.cell? a = some (.int .i32 1)) (hz : w.frozen? a = false) :
    Calls Tryd.prog 109 #[.pointer (some a)] w fun e w' => e = .returned (.tuple #[]) ∧ w' = w.setCell a (.int .i32 0) := by
  have hd := on_disable
  have he := on_enable
  have hr := on_releaseMerge
  have hadd := run_call_add (P := Tryd.prog) Tryd.func121 (by kernel_rfl) (by kernel_rfl) (by kernel_rfl) .i32 (by kernel_rfl) (y := -1) (s := 0) hc hz (by simp [go_sem]; rfl)
  have hcv := run_convert_to_unsafe (P := Tryd.prog) (src := 172) (dst := 133) Tryd.underlying172 Tryd.underlying133 (by kernel_rfl) hc
  go_enter Tryd.func109, Tryd.ntmps109
  go_wp2
  go_end0
  exact ⟨rfl, rfl⟩
theorem on_unlock_deferred (a : Addr) (u : FrameMode) (w : World) (hc : w.cell? a = some (.int .i32 1)) (hz : w.frozen? a = false) :
    CallsD Tryd.prog 103 #[.pointer (some a)] u w fun e u' w' => u' = u ∧ (e = .returned (.tuple #[]) ∧ w' = w.setCell a (.int .i32 0)) := by
  go_enter_d Tryd.func103, Tryd.ntmps103
  go_wp2_with (go_at_call 109; refine (on_unlock_in a _ hc hz).mono ?_; rintro e w' ⟨rfl, rfl⟩)
  go_end0
  exact ⟨rfl, rfl⟩
/-- What buildOnce leaves. -/
def OnB (p : Nat) (w : World) (e : Ending) (w' : World) : Prop := ∃ q w1, e = .returned (.tuple #[]) ∧ RTA w.heap.size q w1 ∧ Below w.heap.size w w1 ∧ w' = (w1.setCell ⟨p, 3, none⟩ (.iface 157 (.pointer (some ⟨q, 0, none⟩)))).setCell ⟨p, 4, none⟩ (.slice none 0 0)
set_option maxRecDepth 100000 in
theorem buildOnce_walk (p c cap : Nat) (w : World) (h3 : w.cell? ⟨p, 3, none⟩ = some .nilIface) (h4 : w.cell? ⟨p, 4, none⟩ = some (.slice (some ⟨c, 0, none⟩) 6 cap)) (f3 : w.frozen? ⟨p, 3, none⟩ = false) (f4 : w.frozen? ⟨p, 4, none⟩ = false) (six : Six c w) :
    Calls Tryd.prog 71 #[.pointer (some ⟨p, 0, none⟩)] w (OnB p w) := by
  have hpl : p < w.heap.size := cellLt h3
  have HS := Aside0.mk six
  clear six
  go_enter Tryd.func71, Tryd.ntmps71
  go_wp2_with fail
  go_at_call 90
  refine (build_walk p c cap _ h4 HS.out).mono ?_
  rintro e w1 ⟨q, rfl, hR, hB⟩
  have g3 := (hB.cell (p := ⟨p, 3, none⟩) hpl).trans h3
  have g4 := (hB.cell (p := ⟨p, 4, none⟩) hpl).trans h4
  have e3 := (hB.frozen (p := ⟨p, 3, none⟩) hpl).trans f3
  have e4 := (hB.frozen (p := ⟨p, 4, none⟩) hpl).trans f4
  have HF := Aside0.mk (And.intro hR hB)
  clear hR hB
  go_wp2_with fail
  go_end0
  exact ⟨q, w1, rfl, HF.out.1, HF.out.2, rfl⟩
theorem on_load (a : Addr) (w : World) (h : w.cell? a = some (.int .u32 0)) :
    Calls Tryd.prog 88 #[.pointer (some a)] w fun e w' => e = .returned (.bool false) ∧ w' = w := by
  have hl := run_call_load (P := Tryd.prog) Tryd.func101 (by kernel_rfl) (by kernel_rfl) (by kernel_rfl) .u32 (by kernel_rfl) h
  go_enter Tryd.func88, Tryd.ntmps88
  go_wp2
  go_ret
  exact ⟨rfl, rfl⟩
/-- What the first Do leaves. -/
def OnD (p : Nat) (w : World) (e : Ending) (w' : World) : Prop := ∃ q, e = .returned (.tuple #[]) ∧ RTA w.heap.size q w' ∧ w'.cell? ⟨p, 3, none⟩ = some (.iface 157 (.pointer (some ⟨q, 0, none⟩))) ∧ Below p w w'
theorem oneOff {p i j : Nat} (h : i ≠ j) : (⟨p, i, none⟩ : Addr) ≠ ⟨p, j, none⟩ := fun e => h (congrArg Addr.off e)
set_option maxRecDepth 100000 in
set_option maxHeartbeats 1600000 in
theorem slow_walk (p c cap : Nat) (w : World) (h0 : w.cell? ⟨p, 0, none⟩ = some (.int .u32 0)) (h1 : w.cell? ⟨p, 1, none⟩ = some (.int .i32 0)) (h3 : w.cell? ⟨p, 3, none⟩ = some .nilIface) (h4 : w.cell? ⟨p, 4, none⟩ = some (.slice (some ⟨c, 0, none⟩) 6 cap))
    (fz : ∀ i, w.frozen? ⟨p, i, none⟩ = false) (six : Six c w) (hcp : c < p) :
    Calls Tryd.prog 89 #[.pointer (some ⟨p, 0, none⟩), .func (.func 71) #[.pointer (some ⟨p, 0, none⟩)] #[]] w (OnD p w) := by
  have hpl : p < w.heap.size := cellLt h0
  have g0 : (w.setCell ⟨p, 1, none⟩ (.int .i32 1)).cell? ⟨p, 0, none⟩ = some (.int .u32 0) := (World.cell?_setCell_other _ _ _ _ (oneOff (by omega))).trans h0
  have g3 : (w.setCell ⟨p, 1, none⟩ (.int .i32 1)).cell? ⟨p, 3, none⟩ = some .nilIface := (World.cell?_setCell_other _ _ _ _ (oneOff (by omega))).trans h3
  have g4 : (w.setCell ⟨p, 1, none⟩ (.int .i32 1)).cell? ⟨p, 4, none⟩ = some (.slice (some ⟨c, 0, none⟩) 6 cap) := (World.cell?_setCell_other _ _ _ _ (oneOff (by omega))).trans h4
  have f3 : (w.setCell ⟨p, 1, none⟩ (.int .i32 1)).frozen? ⟨p, 3, none⟩ = false := by simp [fz]
  have f4 : (w.setCell ⟨p, 1, none⟩ (.int .i32 1)).frozen? ⟨p, 4, none⟩ = false := by simp [fz]
  have six1 : Six c (w.setCell ⟨p, 1, none⟩ (.int .i32 1)) := by
    have ne : ∀ i, (⟨p, 1, none⟩ : Addr) ≠ ⟨c, i, none⟩ := fun i e => by have := congrArg Addr.block e; simp at this; omega
    exact ⟨(World.cell?_setCell_other _ _ _ _ (ne _)).trans six.h0, (World.cell?_setCell_other _ _ _ _ (ne _)).trans six.h1, (World.cell?_setCell_other _ _ _ _ (ne _)).trans six.h2, (World.cell?_setCell_other _ _ _ _ (ne _)).trans six.h3, (World.cell?_setCell_other _ _ _ _ (ne _)).trans six.h4, (World.cell?_setCell_other _ _ _ _ (ne _)).trans six.h5⟩
  have HS := Aside0.mk six1
  clear six six1
  have hsz : (w.setCell ⟨p, 1, none⟩ (.int .i32 1)).heap.size = w.heap.size := by simp
  have HZ := Aside0.mk hsz
  clear hsz
  have hnot : ∀ (x : Bool) (w : World), (Op.unary .not (.bool x)).run Tryd.prog w = .ok (.bool (!x)) w := fun _ _ => rfl
  have hz1 := fz 1
  go_enter_defers Tryd.func89, Tryd.ntmps89
  go_wp2_with (first | (go_at_call 102; refine (on_lock ⟨p, 1, none⟩ _ h1 hz1).mono ?_; rintro e w' ⟨rfl, rfl⟩) | (go_at_call 88; refine (on_load ⟨p, 0, none⟩ _ g0).mono ?_; rintro e w' ⟨rfl, rfl⟩))
  go_at_call 71
  refine (buildOnce_walk p c cap _ g3 g4 f3 f4 HS.out).mono ?_
  rintro e w2 ⟨q, w1, rfl, hR, hB, rfl⟩
  have HF := Aside0.mk (And.intro hR hB)
  clear hR hB
  have hpl1 : p < w1.heap.size := by have := HF.out.2.size; have := HZ.out; omega
  have k0 := (HF.out.2.cell (p := ⟨p, 0, none⟩) (by rw [HZ.out]; exact hpl)).trans g0
  have k1 := (HF.out.2.cell (p := ⟨p, 1, none⟩) (by rw [HZ.out]; exact hpl)).trans (World.cell?_setCell_same w ⟨p, 1, none⟩ (.int .i32 1) h1)
  have k3 := (HF.out.2.cell (p := ⟨p, 3, none⟩) (by rw [HZ.out]; exact hpl)).trans g3
  have zf : ∀ i, w1.frozen? ⟨p, i, none⟩ = false := fun i => (HF.out.2.frozen (p := ⟨p, i, none⟩) (by rw [HZ.out]; exact hpl)).trans (by simp [fz])
  go_wp2_with fail
  refine leaves_cons (f := 104) (args := #[.pointer (some ⟨p, 0, none⟩), .bool true]) (by simp) (by simp [go_sem]) ?_
  refine (on_store_deferred ⟨p, 0, none⟩ (.int .u32 0) .returning _ ?_ (by simp [zf])).mono ?_
  · exact (World.cell?_setCell_other _ _ _ _ (oneOff (by omega))).trans ((World.cell?_setCell_other _ _ _ _ (oneOff (by omega))).trans k0)
  rintro e u' w'' ⟨rfl, rfl, rfl⟩
  refine leaves_cons (f := 103) (args := #[.pointer (some ⟨p, 1, none⟩)]) (by simp [settle]) (by simp [go_sem]) ?_
  refine (on_unlock_deferred ⟨p, 1, none⟩ _ _ ?_ (by simp [zf])).mono ?_
  · refine (World.cell?_setCell_other _ _ _ _ (oneOff (by omega))).trans ?_
    rw [World.cell?_drew]
    exact (World.cell?_setCell_other _ _ _ _ (oneOff (by omega))).trans ((World.cell?_setCell_other _ _ _ _ (oneOff (by omega))).trans k1)
  rintro e u' w'' ⟨rfl, rfl, rfl⟩
  have hR := HF.out.1
  rw [HZ.out] at hR
  have hfin : OnD p w (.returned (.tuple #[])) ((((w1.setCell ⟨p, 3, none⟩ (.iface 157 (.pointer (some ⟨q, 0, none⟩)))).setCell ⟨p, 4, none⟩ (.slice none 0 0)).drew.setCell ⟨p, 0, none⟩ (.int .u32 1)).setCell ⟨p, 1, none⟩ (.int .i32 0)) := by
    refine ⟨q, rfl, ((((hR.set ⟨p, 3, none⟩ hpl _).set ⟨p, 4, none⟩ hpl _).drew).set ⟨p, 0, none⟩ hpl _).set ⟨p, 1, none⟩ hpl _, ?_, ?_⟩
    · rw [World.cell?_setCell_other _ _ _ _ (oneOff (by omega)), World.cell?_setCell_other _ _ _ _ (oneOff (by omega)), World.cell?_drew, World.cell?_setCell_other _ _ _ _ (oneOff (by omega))]
      exact World.cell?_setCell_same _ _ _ k3
    · have b0 := ((Below.refl p w).setCell (p := ⟨p, 1, none⟩) (Nat.le_refl _) (.int .i32 1)).trans (HF.out.2.mono (by rw [HZ.out]; omega))
      exact ((((b0.setCell (p := ⟨p, 3, none⟩) (Nat.le_refl _) _).setCell (p := ⟨p, 4, none⟩) (Nat.le_refl _) _).drew).setCell (p := ⟨p, 0, none⟩) (Nat.le_refl _) _).setCell (p := ⟨p, 1, none⟩) (Nat.le_refl _) _
  simp only [Leaves, settle, results, Tryd.results89]
  exact ⟨_, by simp, hfin⟩
set_option maxRecDepth 100000 in
theorem do_walk (p c cap : Nat) (w : World) (h0 : w.cell? ⟨p, 0, none⟩ = some (.int .u32 0)) (h1 : w.cell? ⟨p, 1, none⟩ = some (.int .i32 0)) (h3 : w.cell? ⟨p, 3, none⟩ = some .nilIface) (h4 : w.cell? ⟨p, 4, none⟩ = some (.slice (some ⟨c, 0, none⟩) 6 cap))
    (fz : ∀ i, w.frozen? ⟨p, i, none⟩ = false) (six : Six c w) (hcp : c < p) :
    Calls Tryd.prog 70 #[.pointer (some ⟨p, 0, none⟩), .func (.func 71) #[.pointer (some ⟨p, 0, none⟩)] #[]] w (OnD p w) := by
  have HS := Aside0.mk six
  clear six
  have hnot : ∀ (x : Bool) (w : World), (Op.unary .not (.bool x)).run Tryd.prog w = .ok (.bool (!x)) w := fun _ _ => rfl
  go_enter Tryd.func70, Tryd.ntmps70
  go_wp2_with (go_at_call 88; refine (on_load ⟨p, 0, none⟩ _ h0).mono ?_; rintro e w' ⟨rfl, rfl⟩)
  go_at_call 89
  refine (slow_walk p c cap _ h0 h1 h3 h4 fz HS.out hcp).mono ?_
  rintro e w2 ⟨q, rfl, hR, h8, hB⟩
  have HF := Aside0.mk (And.intro hR (And.intro h8 hB))
  clear hR hB h8
  go_wp2_with fail
  go_end0
  exact ⟨q, rfl, HF.out⟩
theorem meth_Replace (q : Nat) (w : World) : (Go.method 313 157 (.pointer (some ⟨q, 0, none⟩)) "Replace").run Tryd.prog w = .ok (157, .pointer (some ⟨q, 0, none⟩)) w := by kernel_rfl
set_option maxRecDepth 100000 in
theorem repl_walk (p c cap : Nat) (s : ByteArray) (w : World) (h : RN p c cap w) (hcp : c < p) (hs : s.size ≤ 2000000000) :
    Calls Tryd.prog 49 #[.pointer (some ⟨p, 0, none⟩), .string s] w fun e w' => e = .returned (.string ⟨(parT s.data.toList).toArray⟩) ∧ Below p w w' := by
  have h0 : w.cell? ⟨p, 0, none⟩ = some (.int .u32 0) := by rw [cell_blk h.blk]; rfl
  have h1 : w.cell? ⟨p, 1, none⟩ = some (.int .i32 0) := by rw [cell_blk h.blk]; rfl
  have h3 : w.cell? ⟨p, 3, none⟩ = some .nilIface := by rw [cell_blk h.blk]; rfl
  have h4 : w.cell? ⟨p, 4, none⟩ = some (.slice (some ⟨c, 0, none⟩) 6 cap) := by rw [cell_blk h.blk]; rfl
  have fz : ∀ i, w.frozen? ⟨p, i, none⟩ = false := fun i => froz_blk h.blk i
  have HS := Aside0.mk h.six
  have hpl : p < w.heap.size := cellLt h0
  have hmf : ∀ (fn : Fn) (first cap : Array Value) (w : World), (Instr.makeFunc fn first cap).run Tryd.prog w = .ok (.func fn first cap) w := fun _ _ _ _ => rfl
  clear h
  go_enter Tryd.func49, Tryd.ntmps49
  go_wp2_with fail
  go_at_call 70
  refine (do_walk p c cap _ h0 h1 h3 h4 fz HS.out hcp).mono ?_
  rintro e w2 ⟨q, rfl, hR, h8, hB⟩
  have HF := Aside0.mk (And.intro hR hB)
  clear hR hB h0 h1 h3 h4 fz
  have hme := meth_Replace
  go_wp2_with fail
  go_at_call 157
  refine (bsr_walk q s _ HF.out.1.rt hs).mono ?_
  rintro e w3 ⟨rfl, hB3⟩
  have H3 := Aside0.mk hB3
  clear hB3
  go_wp2_with fail
  go_ret
  exact ⟨rfl, HF.out.2.trans (H3.out.mono (by have := HF.out.2.size; omega))⟩
end Go.Proofs.YtknmbalhbecdhaaDoor.Print
