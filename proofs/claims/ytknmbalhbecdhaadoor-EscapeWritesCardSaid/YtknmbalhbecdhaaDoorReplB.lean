/- (*strings.Replacer).build at escape.Param's six strings, walked. -/
import Derived.Test.YtknmbalhbecdhaaDoorReplN
import Derived.Deep.WholeRow
import Derived.Lib.ConvBytes
import Derived.Outline
set_option linter.unusedVariables false
set_option linter.unusedSimpArgs false
namespace Go.Proofs.YtknmbalhbecdhaaDoor.Print
open Go.RowKit Go.Proofs.YtknmbalhbecdhaaDoorW.PrintWords Go.Proofs.YtknmbalhbecdhaaDoorW.PrintLast Go.Proofs.YtknmbalhbecdhaaDoorW.PrintMore
theorem mk3 (w : World) : (Instr.makeSlice 22 (.int .i64 0) (.int .i64 3)).run Tryd.prog w = .ok (.slice (some ⟨w.heap.size, 0, none⟩) 0 3) (w.alloc (.cells #[.string ⟨#[]⟩, .string ⟨#[]⟩, .string ⟨#[]⟩] 9)) := by kernel_rfl
theorem size156 : (Tryd.prog.info? 156).map (·.size) = some 257 := by kernel_rfl
theorem zsize : Tryd.zeroCells156.size = 257 := by kernel_rfl
theorem zone : Tryd.zeroCells156.all (·.oneCell') = true := by kernel_rfl
/-- The table, before a byte is laid. -/
noncomputable def T0 (g : Nat) : Array Value := (Tryd.zeroCells156.toList.set 256 (.slice (some ⟨g, 0, none⟩) 0 3)).toArray
theorem T0_size (g : Nat) : (T0 g).size = 257 := by unfold T0; rw [List.size_toArray, List.length_set, Array.length_toList]; exact zsize
theorem T0_one (g : Nat) : (T0 g).all (·.oneCell') = true := by
  unfold T0
  rw [List.all_toArray, List.all_eq_true]
  intro v hv
  rcases List.mem_or_eq_of_mem_set hv with h | rfl
  · have := zone
    rw [← Array.all_toList, List.all_eq_true] at this
    exact this v h
  · rfl
theorem zrep : Tryd.zeroCells156 = Array.replicate 257 (.slice none 0 0) := by kernel_rfl
theorem eql_nil (w : World) : (binOp .eql 55 (.slice none 0 0) (.slice none 0 0)).run Tryd.prog w = .ok (.bool true) w := by kernel_rfl
theorem T0_nil (g c : Nat) (hc : c < 256) : (T0 g)[c]? = some (.slice none 0 0) := by
  unfold T0
  rw [List.getElem?_toArray, List.getElem?_set_ne (by omega), Array.getElem?_toList]
  rw [zrep, Array.getElem?_replicate, if_pos (by omega)]
theorem T0_list (g : Nat) : (T0 g)[256]? = some (.slice (some ⟨g, 0, none⟩) 0 3) := by
  unfold T0
  rw [List.getElem?_toArray, List.getElem?_set_self (by rw [Array.length_toList, zsize]; omega)]
theorem put156 (w : World) (g : Nat) : (storeCells ⟨w.heap.size, 0, none⟩ (Tryd.zeroCells156.toList.set 256 (.slice (some ⟨g, 0, none⟩) 0 3)) 0).run Tryd.prog (w.alloc (.cells Tryd.zeroCells156 156)) = .ok () (w.alloc (.cells (T0 g) 156)) :=
  run_storeCells_new w 156 _ (T0 g) (by rw [size156, T0_size]) (by rw [zsize, T0_size]) (T0_one g)
theorem cv_byte (b : UInt8) (w : World) : (convert 55 9 (.slice (some ⟨w.heap.size, 0, none⟩) 1 1)).run Tryd.prog (w.alloc (.cells #[.int .u8 ((b.toNat : Nat) : Int)] 5)) = .ok (.string ⟨#[b]⟩) (w.alloc (.cells #[.int .u8 ((b.toNat : Nat) : Int)] 5)) :=
  run_convert_bytes_back (P := Tryd.prog) _ 55 9 5 ⟨w.heap.size, 0, none⟩ 1 [b] Tryd.underlying55 Tryd.underlying5 Tryd.underlying9 (fun j hj => by
    have hj0 : j = 0 := by simpa using hj
    subst hj0
    show (w.alloc _).cell? ⟨w.heap.size, 0, none⟩ = _
    rw [World.cell?_alloc_at _ _ _ _ rfl]; rfl)
/-- The bytes that are laid, in their order. -/
def ob (k : Nat) : Nat := if k = 0 then 34 else if k = 1 then 10 else 94
/-- The table of replacements while it is filled: so many bytes are laid. -/
structure Stage (w0 : World) (T Q : Nat) (k : Nat) (w : World) : Prop where
  bel : Below w0.heap.size w0 w
  tb : ∃ tc : Array Value, w.heap[T]? = some (.cells tc 9 (0, 0)) ∧ tc.size = 3 ∧ ∀ j, j < k → tc[j]? = some (.string ⟨#[(ob j).toUInt8]⟩)
  qb : ∃ qc : Array Value, w.heap[Q]? = some (.cells qc 156 (0, 0)) ∧ qc.size = 257 ∧ qc[256]? = some (.slice (some ⟨T, 0, none⟩) k 3) ∧
    (∀ c, c < 256 → (∀ j, j < k → c ≠ ob j) → qc[c]? = some (.slice none 0 0)) ∧
    (∀ j, j < k → ∃ q cap, qc[ob j]? = some (.slice (some ⟨q, 0, none⟩) 2 cap) ∧ 2 ≤ cap ∧ q ≠ T ∧ q ≠ Q ∧ w0.heap.size ≤ q ∧ w.cell? ⟨q, 0, none⟩ = some (.int .u8 94) ∧ w.cell? ⟨q, 1, none⟩ = some (.int .u8 (subB (ob j))))
theorem cv_str (s : ByteArray) (w : World) : ∃ w' cap, (convert 9 55 (.string s)).run Tryd.prog w = .ok (.slice (some ⟨w.heap.size, 0, none⟩) s.size cap) w' ∧ Below w.heap.size w w' ∧ s.size ≤ cap ∧ (∀ j, j < s.size → w'.cell? ⟨w.heap.size, j, none⟩ = some (.int .u8 ((s.data.toList.getD j 0).toNat : Nat))) := by
  refine ⟨Lib.bytesWorld w 5 s, _, Lib.run_convert_string_bytes w 9 55 5 s Tryd.underlying9 Tryd.underlying55 Tryd.underlying5, ?_, grownCap_ge _ _ _ _, fun j hj => Lib.bytesWorld_cell w 5 s j hj⟩
  refine ⟨?_, ?_, ?_, ?_, fun j hj => Lib.bytesWorld_at_old w 5 s j hj⟩
  · unfold Lib.bytesWorld World.freeze; split <;> rfl
  · unfold Lib.bytesWorld World.freeze; split <;> rfl
  · unfold Lib.bytesWorld World.freeze; split <;> rfl
  · rw [Lib.bytesWorld_size]; omega
theorem blkSetO {w : World} {g h : Nat} {j : Nat} {x : Option Obj} (hx : w.heap[g]? = x) (hne : g ≠ h) (u : Value) : (w.setCell ⟨h, j, none⟩ u).heap[g]? = x := by
  rw [Below.heap_setCell _ _ _ _ hne]; exact hx
theorem blkAl {w : World} {g : Nat} {x : Obj} (hx : w.heap[g]? = some x) (o : Obj) : (w.alloc o).heap[g]? = some x := by
  rw [Below.heap_alloc _ _ _ (Array.getElem?_eq_some_iff.1 hx).1]; exact hx
theorem ob_lt (k : Nat) : ob k < 256 := by unfold ob; split <;> (try split) <;> omega
theorem ob_ne {j k : Nat} (h : j < k) (hk : k < 3) : ob j ≠ ob k := by
  have : k = 1 ∨ k = 2 := by omega
  rcases this with rfl | rfl
  · obtain rfl : j = 0 := by omega
    decide
  · have : j = 0 ∨ j = 1 := by omega
    rcases this with rfl | rfl <;> decide
/-- The world in which a round's replacement is made. -/
def midW (T Q k : Nat) (o : UInt8) (wr : World) : World := (((wr.setCell ⟨T, k, none⟩ (.string ⟨#[o]⟩)).setCell ⟨Q, 256, none⟩ (.slice (some ⟨T, 0, none⟩) (k + 1) 3)).alloc (.cells #[.int .u8 ((o.toNat : Nat) : Int)] 5)).alloc (.cells #[.string ⟨#[o]⟩] 9)
theorem stage_step {w0 wr : World} {T Q k : Nat} (hS : Stage w0 T Q k wr) (hk : k < 3) (hT : w0.heap.size ≤ T) (hQ : w0.heap.size ≤ Q) (hTQ : T ≠ Q) {w' : World} {cap : Nat} (o : UInt8) (ho : o = (ob k).toUInt8)
    (hB : Below (midW T Q k o wr).heap.size (midW T Q k o wr) w') (hc : 2 ≤ cap)
    (c0 : w'.cell? ⟨(midW T Q k o wr).heap.size, 0, none⟩ = some (.int .u8 94)) (c1 : w'.cell? ⟨(midW T Q k o wr).heap.size, 1, none⟩ = some (.int .u8 (subB (ob k)))) :
    Stage w0 T Q (k + 1) (w'.setCell ⟨Q, ob k, none⟩ (.slice (some ⟨(midW T Q k o wr).heap.size, 0, none⟩) 2 cap)) := by
  obtain ⟨hb, ⟨tc, ht1, ht2, ht3⟩, ⟨qc, hq1, hq2, hq3, hq4, hq5⟩⟩ := hS
  have hTl : T < wr.heap.size := (Array.getElem?_eq_some_iff.1 ht1).1
  have hQl : Q < wr.heap.size := (Array.getElem?_eq_some_iff.1 hq1).1
  have hms : (midW T Q k o wr).heap.size = wr.heap.size + 2 := by unfold midW; simp
  have hw0 := hb.size
  have hobl := ob_lt k
  have bm : Below w0.heap.size w0 (midW T Q k o wr) :=
    (((hb.setCell (p := ⟨T, k, none⟩) hT _).setCell (p := ⟨Q, 256, none⟩) hQ _).alloc (by simp; omega) _).alloc (by simp; omega) _
  have bw : Below w0.heap.size w0 w' := bm.trans (hB.mono (by omega))
  have mt : (midW T Q k o wr).heap[T]? = some (.cells (tc.setIfInBounds k (.string ⟨#[o]⟩)) 9 (0, 0)) :=
    blkAl (blkAl (blkSetO (blkSet ht1 k _) hTQ _) _) _
  have mq : (midW T Q k o wr).heap[Q]? = some (.cells (qc.setIfInBounds 256 (.slice (some ⟨T, 0, none⟩) (k + 1) 3)) 156 (0, 0)) :=
    blkAl (blkAl (blkSet (blkSetO hq1 (Ne.symm hTQ) _) 256 _) _) _
  have wt := (hB.block T (by omega)).trans mt
  have wq := (hB.block Q (by omega)).trans mq
  refine ⟨bw.setCell (p := ⟨Q, ob k, none⟩) hQ _, ⟨_, blkSetO wt hTQ _, by rw [Array.size_setIfInBounds]; exact ht2, fun j hj => ?_⟩, ⟨_, blkSet wq _ _, by rw [Array.size_setIfInBounds, Array.size_setIfInBounds]; exact hq2, ?_, fun c hc' hne => ?_, fun j hj => ?_⟩⟩
  · by_cases h : j = k
    · subst h; rw [Array.getElem?_setIfInBounds_self_of_lt (by omega), ho]
    · rw [Array.getElem?_setIfInBounds_ne (by omega)]; exact ht3 j (by omega)
  · rw [Array.getElem?_setIfInBounds_ne (by omega), Array.getElem?_setIfInBounds_self_of_lt (by omega)]
  · have hck := hne k (by omega)
    rw [Array.getElem?_setIfInBounds_ne (by omega), Array.getElem?_setIfInBounds_ne (by omega)]
    exact hq4 c hc' (fun j hj => hne j (by omega))
  · by_cases h : j = k
    · subst h
      refine ⟨_, cap, by rw [Array.getElem?_setIfInBounds_self_of_lt (by rw [Array.size_setIfInBounds]; omega)], hc, by omega, by omega, by omega, ?_, ?_⟩
      · rw [World.cell?_setCell_other _ _ _ _ (by intro e; have := congrArg Addr.block e; simp at this; omega)]; exact c0
      · rw [World.cell?_setCell_other _ _ _ _ (by intro e; have := congrArg Addr.block e; simp at this; omega)]; exact c1
    · have hjk : j < k := by omega
      obtain ⟨q, cap', a1, a2, a3, a4, a7, a5, a6⟩ := hq5 j hjk
      have hql : q < wr.heap.size := cellLt a5
      have hob := ob_ne hjk hk
      have hobj := ob_lt j
      refine ⟨q, cap', by rw [Array.getElem?_setIfInBounds_ne (Ne.symm hob), Array.getElem?_setIfInBounds_ne (by omega)]; exact a1, a2, a3, a4, a7, ?_, ?_⟩
      all_goals
        rw [World.cell?_setCell_other _ _ _ _ (by intro e; have := congrArg Addr.block e; simp at this; omega)]
        refine (hB.cell (p := ⟨q, _, none⟩) (by show q < _; omega)).trans ?_
        unfold midW
        rw [World.cell?_alloc_lt _ _ _ (by simp; omega), World.cell?_alloc_lt _ _ _ (by simp; omega), World.cell?_setCell_other _ _ _ _ (by intro e; have := congrArg Addr.block e; simp at this; omega), World.cell?_setCell_other _ _ _ _ (by intro e; have := congrArg Addr.block e; simp at this; omega)]
        first | exact a5 | exact a6
/-- The table lies in blocks from a place on: what happens below it leaves it. -/
def RTA (B p : Nat) (w : World) : Prop := ∀ w' : World, (∀ k, B ≤ k → w'.heap[k]? = w.heap[k]?) → RT p w'
theorem RTA.rt {B p : Nat} {w : World} (h : RTA B p w) : RT p w := h w (fun _ _ => rfl)
theorem RTA.keep {B p : Nat} {w w' : World} (h : RTA B p w) (hk : ∀ k, B ≤ k → w'.heap[k]? = w.heap[k]?) : RTA B p w' := fun w2 h2 => h w2 (fun k hb => (h2 k hb).trans (hk k hb))
theorem RTA.set {B p : Nat} {w : World} (h : RTA B p w) (a : Addr) (ha : a.block < B) (u : Value) : RTA B p (w.setCell a u) := h.keep (fun k hk => Below.heap_setCell _ _ _ _ (by omega))
theorem RTA.drew {B p : Nat} {w : World} (h : RTA B p w) : RTA B p w.drew := h.keep (fun _ _ => rfl)
theorem rt_of_stage {w0 w : World} {T Q : Nat} (hT : w0.heap.size ≤ T) (hQ : w0.heap.size ≤ Q) (h : Stage w0 T Q 3 w) : RTA w0.heap.size Q w := by
  intro w' hk
  obtain ⟨hb, ⟨tc, ht1, ht2, ht3⟩, ⟨qc, hq1, hq2, hq3, hq4, hq5⟩⟩ := h
  rw [← hk T hT] at ht1
  rw [← hk Q hQ] at hq1
  refine ⟨fun c hc h1 h2 h3 => ?_, fun c hc => ?_, ⟨T, 3, by rw [cell_blk hq1]; exact hq3, Nat.le_refl _, by rw [cell_blk ht1]; exact ht3 0 (by omega), by rw [cell_blk ht1]; exact ht3 1 (by omega), by rw [cell_blk ht1]; exact ht3 2 (by omega)⟩⟩
  · rw [cell_blk hq1]
    refine hq4 c hc (fun j hj => ?_)
    have : j = 0 ∨ j = 1 ∨ j = 2 := by omega
    rcases this with rfl | rfl | rfl
    · exact h3
    · exact h2
    · exact h1
  · have : ∃ j, j < 3 ∧ c = ob j := by
      rcases hc with h | h | h
      · exact ⟨2, by omega, h⟩
      · exact ⟨1, by omega, h⟩
      · exact ⟨0, by omega, h⟩
    obtain ⟨j, hj, rfl⟩ := this
    obtain ⟨q, cap, a1, a2, a3, a4, a7, a5, a6⟩ := hq5 j hj
    exact ⟨q, cap, by rw [cell_blk hq1]; exact a1, a2, (World.cell?_of_block (w := w) (hk q a7)).trans a5, (World.cell?_of_block (w := w) (hk q a7)).trans a6⟩
theorem stage_zero (w : World) : Stage w w.heap.size (w.heap.size + 1) 0 ((w.alloc (.cells #[.string ⟨#[]⟩, .string ⟨#[]⟩, .string ⟨#[]⟩] 9)).alloc (.cells (T0 w.heap.size) 156)) := by
  have e1 := allocAt (w.alloc (.cells #[.string ⟨#[]⟩, .string ⟨#[]⟩, .string ⟨#[]⟩] 9)) (.cells (T0 w.heap.size) 156)
  rw [World.size_alloc] at e1
  refine ⟨((Below.refl _ _).alloc (Nat.le_refl _) _).alloc (by simp) _, ⟨_, blkAl (allocAt w _) _, rfl, fun j hj => by omega⟩, ⟨_, e1, T0_size _, T0_list _, fun c hc _ => T0_nil _ c hc, fun j hj => by omega⟩⟩
set_option maxHeartbeats 4000000 in
set_option maxRecDepth 100000 in
theorem build_walk (p c cap : Nat) (w : World) (hold : w.cell? ⟨p, 4, none⟩ = some (.slice (some ⟨c, 0, none⟩) 6 cap)) (h : Six c w) :
    Calls Tryd.prog 90 #[.pointer (some ⟨p, 0, none⟩)] w fun e w' => ∃ q : Nat, e = .returned (.iface 157 (.pointer (some ⟨q, 0, none⟩))) ∧ RTA w.heap.size q w' ∧ Below w.heap.size w w' := by
  obtain ⟨h0, h1, h2, h3, h4, h5⟩ := h
  have hmk := mk3
  have hnn := neq_nil
  have hput := put156 (w.alloc (.cells #[.string ⟨#[]⟩, .string ⟨#[]⟩, .string ⟨#[]⟩] 9)) w.heap.size
  rw [World.size_alloc] at hput
  go_enter Tryd.func90, Tryd.ntmps90
  go_wp2
  refine wp_loop_rounds 4 ?_
  rw [rounds_succ]
  go_wp2
  rw [rounds_succ]
  go_wp2
  rw [rounds_succ]
  go_wp2
  rw [rounds_succ]
  go_wp2
  have heq := eql_nil
  have hcl : c < w.heap.size := cellLt h0
  have HS0 := Aside0.mk (stage_zero w)
  obtain ⟨T, hT⟩ : ∃ T, T = w.heap.size := ⟨_, rfl⟩
  obtain ⟨Q, hQ⟩ : ∃ Q, Q = T + 1 := ⟨_, rfl⟩
  have HT := Aside0.mk hT
  have HQ := Aside0.mk hQ
  rw [← hT, ← hQ] at HS0 ⊢
  clear hT hQ hput hmk hold hnn
  go_loopg [12, 13, 14] 4 (fun g v12 v13 v14 wr => ∃ k : Nat, v12 = .int .i64 (4 - 2 * (k : Int)) ∧ k ≤ 3 ∧ Aside0 (3 ≤ k + g) ∧ Aside0 (Stage w T Q k wr))
  case atStart => exact ⟨0, rfl, by omega, ⟨by omega⟩, HS0⟩
  case round =>
    obtain ⟨k, rfl, hk, HK, HSt⟩ := hrel
    obtain ⟨hb, ⟨tc, ht1, ht2, ht3⟩, ⟨qc, hq1, hq2, hq3, hq4, hq5⟩⟩ := HSt.out
    rcases Nat.lt_or_ge k 3 with hlt | hge
    · cases gk with
      | zero => exfalso; have := HK.out; omega
      | succ g =>
      have qt : wr.cell? ⟨Q, 256, none⟩ = some (.slice (some ⟨T, 0, none⟩) k 3) := by rw [cell_blk hq1]; exact hq3
      have qn : wr.cell? ⟨Q, ob k, none⟩ = some (.slice none 0 0) := by
        rw [cell_blk hq1]; refine hq4 _ (by unfold ob; split <;> (try split) <;> omega) (fun j hj => ?_)
        unfold ob
        have : k = 0 ∨ k = 1 ∨ k = 2 := by omega
        rcases this with rfl | rfl | rfl
        · omega
        · obtain rfl : j = 0 := by omega
          decide
        · have : j = 0 ∨ j = 1 := by omega
          rcases this with rfl | rfl <;> decide
      have fz : ∀ j, wr.frozen? ⟨Q, j, none⟩ = false := fun j => froz_blk hq1 j
      have ft : ∀ j, wr.frozen? ⟨T, j, none⟩ = false := fun j => froz_blk ht1 j
      have htk : ∃ v, wr.cell? ⟨T, k, none⟩ = some v := ⟨tc[k]'(by omega), by rw [cell_blk ht1, Array.getElem?_eq_getElem]⟩
      obtain ⟨tv, htk⟩ := htk
      have g0 := (hb.cell (p := ⟨c, 0, none⟩) hcl).trans h0
      have g1 := (hb.cell (p := ⟨c, 1, none⟩) hcl).trans h1
      have g2 := (hb.cell (p := ⟨c, 2, none⟩) hcl).trans h2
      have g3 := (hb.cell (p := ⟨c, 3, none⟩) hcl).trans h3
      have g4 := (hb.cell (p := ⟨c, 4, none⟩) hcl).trans h4
      have g5 := (hb.cell (p := ⟨c, 5, none⟩) hcl).trans h5
      have hTl : T < wr.heap.size := cellLt htk
      have hQl : Q < wr.heap.size := cellLt qt
      clear hb ht1 ht2 ht3 hq1 hq2 hq3 hq4 hq5 h0 h1 h2 h3 h4 h5
      have hk3 : k = 0 ∨ k = 1 ∨ k = 2 := by omega
      rcases hk3 with rfl | rfl | rfl
      · have hz : ob 0 = 34 := rfl
        rw [hz] at qn
        clear hz
        have xo : (⟨#[34]⟩ : ByteArray)[0]'(by decide) = 34 := rfl
        have cv := cv_byte 34
        rw [show (((34 : UInt8).toNat : Nat) : Int) = 34 from rfl] at cv
        have yo : (34 : UInt8).toNat = 34 := rfl
        obtain ⟨w', cp, hrun, HB', hcp, hcl'⟩ := cv_str ⟨#[94, 39]⟩ (midW T Q 0 34 wr)
        have HM := Aside0.mk (show (midW T Q 0 34 wr).heap.size = wr.heap.size + 2 by unfold midW; simp)
        have z0 := hcl' 0 (by decide)
        have z1 := hcl' 1 (by decide)
        have qn' : w'.cell? ⟨Q, 34, none⟩ = some (.slice none 0 0) := by
          refine (HB'.cell (p := ⟨Q, 34, none⟩) (by have := HM.out; show Q < _; omega)).trans ?_
          unfold midW
          rw [World.cell?_alloc_lt _ _ _ (by simp; omega), World.cell?_alloc_lt _ _ _ (by simp; omega), World.cell?_setCell_other _ _ _ _ (by simp), World.cell?_setCell_other _ _ _ _ (by intro e; have := congrArg Addr.block e; simp at this; have := HQ.out; omega)]
          exact qn
        have fq' : w'.frozen? ⟨Q, 34, none⟩ = false := by
          refine (HB'.frozen (p := ⟨Q, 34, none⟩) (by have := HM.out; show Q < _; omega)).trans ?_
          unfold midW
          rw [World.frozen?_alloc_past _ _ _ (by simp; omega), World.frozen?_alloc_past _ _ _ (by simp; omega)]
          simp [fz]
        have HFin := Aside0.mk (stage_step HSt.out hlt (by have := HT.out; omega) (by have := HT.out; have := HQ.out; omega) (by have := HQ.out; omega) 34 rfl HB' hcp z0 z1)
        have hrun2 : (convert 9 55 (.string ⟨#[94, 39]⟩)).run Tryd.prog ((((wr.setCell ⟨T, 0, none⟩ (.string ⟨#[34]⟩)).setCell ⟨Q, 256, none⟩ (.slice (some ⟨T, 0, none⟩) 1 3)).alloc (.cells #[.int .u8 34] 5)).alloc (.cells #[.string ⟨#[34]⟩] 9)) = .ok (.slice (some ⟨(midW T Q 0 34 wr).heap.size, 0, none⟩) 2 cp) w' := hrun
        obtain ⟨G, hG⟩ : ∃ G, G = (midW T Q 0 34 wr).heap.size := ⟨_, rfl⟩
        rw [← hG] at hrun2 HFin
        clear hrun HB' hcp hcl' z0 z1 HM hG
        go_wp2
        go_roundg g
        case measure => have := HK.out; omega
        case rel => exact ⟨0 + 1, by first | rfl | (go_num; done), by omega, ⟨by have := HK.out; omega⟩, HFin⟩
      · have hz : ob 1 = 10 := rfl
        rw [hz] at qn
        clear hz
        have xo : (⟨#[10]⟩ : ByteArray)[0]'(by decide) = 10 := rfl
        have cv := cv_byte 10
        rw [show (((10 : UInt8).toNat : Nat) : Int) = 10 from rfl] at cv
        have yo : (10 : UInt8).toNat = 10 := rfl
        obtain ⟨w', cp, hrun, HB', hcp, hcl'⟩ := cv_str ⟨#[94, 110]⟩ (midW T Q 1 10 wr)
        have HM := Aside0.mk (show (midW T Q 1 10 wr).heap.size = wr.heap.size + 2 by unfold midW; simp)
        have z0 := hcl' 0 (by decide)
        have z1 := hcl' 1 (by decide)
        have qn' : w'.cell? ⟨Q, 10, none⟩ = some (.slice none 0 0) := by
          refine (HB'.cell (p := ⟨Q, 10, none⟩) (by have := HM.out; show Q < _; omega)).trans ?_
          unfold midW
          rw [World.cell?_alloc_lt _ _ _ (by simp; omega), World.cell?_alloc_lt _ _ _ (by simp; omega), World.cell?_setCell_other _ _ _ _ (by simp), World.cell?_setCell_other _ _ _ _ (by intro e; have := congrArg Addr.block e; simp at this; have := HQ.out; omega)]
          exact qn
        have fq' : w'.frozen? ⟨Q, 10, none⟩ = false := by
          refine (HB'.frozen (p := ⟨Q, 10, none⟩) (by have := HM.out; show Q < _; omega)).trans ?_
          unfold midW
          rw [World.frozen?_alloc_past _ _ _ (by simp; omega), World.frozen?_alloc_past _ _ _ (by simp; omega)]
          simp [fz]
        have HFin := Aside0.mk (stage_step HSt.out hlt (by have := HT.out; omega) (by have := HT.out; have := HQ.out; omega) (by have := HQ.out; omega) 10 rfl HB' hcp z0 z1)
        have hrun2 : (convert 9 55 (.string ⟨#[94, 110]⟩)).run Tryd.prog ((((wr.setCell ⟨T, 1, none⟩ (.string ⟨#[10]⟩)).setCell ⟨Q, 256, none⟩ (.slice (some ⟨T, 0, none⟩) 2 3)).alloc (.cells #[.int .u8 10] 5)).alloc (.cells #[.string ⟨#[10]⟩] 9)) = .ok (.slice (some ⟨(midW T Q 1 10 wr).heap.size, 0, none⟩) 2 cp) w' := hrun
        obtain ⟨G, hG⟩ : ∃ G, G = (midW T Q 1 10 wr).heap.size := ⟨_, rfl⟩
        rw [← hG] at hrun2 HFin
        clear hrun HB' hcp hcl' z0 z1 HM hG
        go_wp2
        go_roundg g
        case measure => have := HK.out; omega
        case rel => exact ⟨1 + 1, by first | rfl | (go_num; done), by omega, ⟨by have := HK.out; omega⟩, HFin⟩
      · have hz : ob 2 = 94 := rfl
        rw [hz] at qn
        clear hz
        have xo : (⟨#[94]⟩ : ByteArray)[0]'(by decide) = 94 := rfl
        have cv := cv_byte 94
        rw [show (((94 : UInt8).toNat : Nat) : Int) = 94 from rfl] at cv
        have yo : (94 : UInt8).toNat = 94 := rfl
        obtain ⟨w', cp, hrun, HB', hcp, hcl'⟩ := cv_str ⟨#[94, 94]⟩ (midW T Q 2 94 wr)
        have HM := Aside0.mk (show (midW T Q 2 94 wr).heap.size = wr.heap.size + 2 by unfold midW; simp)
        have z0 := hcl' 0 (by decide)
        have z1 := hcl' 1 (by decide)
        have qn' : w'.cell? ⟨Q, 94, none⟩ = some (.slice none 0 0) := by
          refine (HB'.cell (p := ⟨Q, 94, none⟩) (by have := HM.out; show Q < _; omega)).trans ?_
          unfold midW
          rw [World.cell?_alloc_lt _ _ _ (by simp; omega), World.cell?_alloc_lt _ _ _ (by simp; omega), World.cell?_setCell_other _ _ _ _ (by simp), World.cell?_setCell_other _ _ _ _ (by intro e; have := congrArg Addr.block e; simp at this; have := HQ.out; omega)]
          exact qn
        have fq' : w'.frozen? ⟨Q, 94, none⟩ = false := by
          refine (HB'.frozen (p := ⟨Q, 94, none⟩) (by have := HM.out; show Q < _; omega)).trans ?_
          unfold midW
          rw [World.frozen?_alloc_past _ _ _ (by simp; omega), World.frozen?_alloc_past _ _ _ (by simp; omega)]
          simp [fz]
        have HFin := Aside0.mk (stage_step HSt.out hlt (by have := HT.out; omega) (by have := HT.out; have := HQ.out; omega) (by have := HQ.out; omega) 94 rfl HB' hcp z0 z1)
        have hrun2 : (convert 9 55 (.string ⟨#[94, 94]⟩)).run Tryd.prog ((((wr.setCell ⟨T, 2, none⟩ (.string ⟨#[94]⟩)).setCell ⟨Q, 256, none⟩ (.slice (some ⟨T, 0, none⟩) 3 3)).alloc (.cells #[.int .u8 94] 5)).alloc (.cells #[.string ⟨#[94]⟩] 9)) = .ok (.slice (some ⟨(midW T Q 2 94 wr).heap.size, 0, none⟩) 2 cp) w' := hrun
        obtain ⟨G, hG⟩ : ∃ G, G = (midW T Q 2 94 wr).heap.size := ⟨_, rfl⟩
        rw [← hG] at hrun2 HFin
        clear hrun HB' hcp hcl' z0 z1 HM hG
        go_wp2
        go_roundg g
        case measure => have := HK.out; omega
        case rel => exact ⟨2 + 1, by first | rfl | (go_num; done), by omega, ⟨by have := HK.out; omega⟩, HFin⟩
    · have hk3 : k = 3 := by omega
      subst hk3
      go_wp2
      go_ret
      exact ⟨Q, rfl, rt_of_stage (by have := HT.out; omega) (by have := HT.out; have := HQ.out; omega) HSt.out, HSt.out.bel⟩
end Go.Proofs.YtknmbalhbecdhaaDoor.Print
