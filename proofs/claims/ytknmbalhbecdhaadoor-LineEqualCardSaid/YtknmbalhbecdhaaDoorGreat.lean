/- line.Great: walked by hand (the bytes of a text, changed in place). -/
import Derived.Test.YtknmbalhbecdhaaDoorXBase
import Derived.WalkKit
import Derived.Deep.LoopGhost
import Derived.Lib.ConvBytes
import Derived.Laws.IdiomStrings
import Derived.Outline
set_option linter.unusedVariables false
set_option linter.unusedSimpArgs false
namespace Go.Proofs.YtknmbalhbecdhaaDoor.Print
open Go.RowKit Go.Proofs.YtknmbalhbecdhaaDoorW.PrintWords Go.Proofs.YtknmbalhbecdhaaDoorW.PrintLast Go.Proofs.YtknmbalhbecdhaaDoorW.PrintMore

def greatB (c : UInt8) : UInt8 := if 97 ≤ c.toNat ∧ c.toNat ≤ 122 then c - 32 else c
theorem greatB_yes (c : UInt8) (h : 97 ≤ c.toNat) (h2 : c.toNat ≤ 122) : ((greatB c).toNat : Int) = (c.toNat : Int) - 32 := by
  unfold greatB
  rw [if_pos ⟨h, h2⟩, UInt8.toNat_sub_of_le c 32 (by rw [UInt8.le_iff_toNat_le]; show 32 ≤ _; omega)]
  show ((c.toNat - 32 : Nat) : Int) = _
  omega
theorem greatB_no (c : UInt8) (h : ¬ (97 ≤ c.toNat ∧ c.toNat ≤ 122)) : greatB c = c := if_neg h
theorem gcv_blk (s : ByteArray) (w : World) : ∃ w' cap cs, (convert 9 55 (.string s)).run Tryd.prog w = .ok (.slice (some ⟨w.heap.size, 0, none⟩) s.size cap) w' ∧ Below w.heap.size w w' ∧ w'.heap[w.heap.size]? = some (.cells cs 5 (cs.size, cs.size + 1)) ∧ s.size ≤ cs.size ∧ (∀ j, j < s.size → cs[j]? = some (.int .u8 ((s.data.toList.getD j 0).toNat : Nat))) := by
  refine ⟨Lib.bytesWorld w 5 s, _, _, Lib.run_convert_string_bytes w 9 55 5 s Tryd.underlying9 Tryd.underlying55 Tryd.underlying5, ⟨?_, ?_, ?_, ?_, fun j hj => Lib.bytesWorld_at_old w 5 s j hj⟩, Lib.bytesWorld_at_new w 5 s, ?_, fun j hj => ?_⟩
  · unfold Lib.bytesWorld World.freeze; split <;> rfl
  · unfold Lib.bytesWorld World.freeze; split <;> rfl
  · unfold Lib.bytesWorld World.freeze; split <;> rfl
  · rw [Lib.bytesWorld_size]; omega
  · unfold Lib.bytesCells; rw [Array.size_append, Array.size_map]; show s.data.size ≤ _; omega
  · have h := Lib.bytesWorld_cell w 5 s j hj
    simp only [World.cell?, Lib.bytesWorld_at_new] at h
    simpa using h
theorem gblk_cell {w : World} {g : Nat} {cs : Array Value} {t : TypeId} {fr : Nat × Nat} (h : w.heap[g]? = some (.cells cs t fr)) (j : Nat) : w.cell? ⟨g, j, none⟩ = cs[j]? := by simp [World.cell?, h]
theorem gblk_froz {w : World} {g : Nat} {cs : Array Value} {t : TypeId} (h : w.heap[g]? = some (.cells cs t (cs.size, cs.size + 1))) (j : Nat) (hj : j < cs.size) : w.frozen? ⟨g, j, none⟩ = false := by simp [World.frozen?, h]; omega
theorem gblk_set {w : World} {g : Nat} {t : TypeId} {cs : Array Value} {fr : Nat × Nat} (h : w.heap[g]? = some (.cells cs t fr)) (i : Nat) (u : Value) : (w.setCell ⟨g, i, none⟩ u).heap[g]? = some (.cells (cs.setIfInBounds i u) t fr) := by
  simp [World.setCell, Array.getElem?_modify, h]
def greatS (s : ByteArray) : ByteArray := ⟨(s.data.toList.map greatB).toArray⟩
/-- The bytes, great up to a place. -/
structure GrB (s : ByteArray) (G : Nat) (i : Nat) (w : World) : Prop where
  ex : ∃ cs : Array Value, w.heap[G]? = some (.cells cs 5 (cs.size, cs.size + 1)) ∧ s.size ≤ cs.size ∧ (∀ j, j < i → cs[j]? = some (.int .u8 ((greatB (s.data.toList.getD j 0)).toNat : Nat))) ∧ (∀ j, i ≤ j → j < s.size → cs[j]? = some (.int .u8 ((s.data.toList.getD j 0).toNat : Nat)))
theorem grB_step {s : ByteArray} {G i : Nat} {w : World} (h : GrB s G i w) (hi : i < s.size) (u : Value) (hu : u = .int .u8 ((greatB (s.data.toList.getD i 0)).toNat : Nat)) : GrB s G (i + 1) (w.setCell ⟨G, i, none⟩ u) := by
  obtain ⟨cs, h1, h2, h3, h4⟩ := h.ex
  refine ⟨cs.setIfInBounds i u, ?_, by rw [Array.size_setIfInBounds]; exact h2, fun j hj => ?_, fun j hj hjs => ?_⟩
  · rw [Array.size_setIfInBounds]; exact gblk_set h1 i u
  · by_cases e : j = i
    · subst e; rw [Array.getElem?_setIfInBounds_self_of_lt (by omega), hu]
    · rw [Array.getElem?_setIfInBounds_ne (by omega)]; exact h3 j (by omega)
  · rw [Array.getElem?_setIfInBounds_ne (by omega)]; exact h4 j (by omega) hjs
theorem grB_skip {s : ByteArray} {G i : Nat} {w : World} (h : GrB s G i w) (hi : i < s.size) (hu : greatB (s.data.toList.getD i 0) = s.data.toList.getD i 0) : GrB s G (i + 1) w := by
  obtain ⟨cs, h1, h2, h3, h4⟩ := h.ex
  refine ⟨_, h1, h2, fun j hj => ?_, fun j hj hjs => h4 j (by omega) hjs⟩
  by_cases e : j = i
  · subst e; rw [hu]; exact h4 j (Nat.le_refl _) hi
  · exact h3 j (by omega)
set_option maxHeartbeats 4000000 in
set_option maxRecDepth 100000 in
theorem great_walk (s : ByteArray) (w : World) (hs : s.size ≤ 9223372036854775807) :
    Calls Tryd.prog 95 #[.string s] w fun e w' => e = .returned (.string (greatS s)) ∧ Below w.heap.size w w' := by
  obtain ⟨w1, cap, cs, hrun, hB1, hb, hle, hcs⟩ := gcv_blk s w
  obtain ⟨G, hG⟩ : ∃ G, G = w.heap.size := ⟨_, rfl⟩
  rw [← hG] at hrun hb
  have HG := Aside0.mk hG
  have HS := Aside0.mk (show GrB s G 0 w1 from ⟨cs, hb, hle, fun j hj => by omega, fun j _ hj => hcs j hj⟩)
  have HB := Aside0.mk hB1
  clear hb hle hcs hB1 hG
  go_enter Tryd.func95, Tryd.ntmps95
  go_wp2_with fail
  clear hrun
  go_loopg [4, 5, 10] s.size (fun g v4 v5 v10 wr => ∃ i : Nat, v10 = .int .i64 i ∧ i ≤ s.size ∧ Aside0 (s.size ≤ i + g) ∧ Aside0 (GrB s G i wr) ∧ Aside0 (Below w.heap.size w wr))
  case atStart => exact ⟨0, rfl, by omega, ⟨by omega⟩, HS, HB⟩
  case round =>
    obtain ⟨i, rfl, hi, HK, HC, HBr⟩ := hrel
    by_cases hlt : i < s.size
    · cases gk with
      | zero => exfalso; have := HK.out; omega
      | succ g =>
      obtain ⟨cs, h1, h2, h3, h4⟩ := HC.out.ex
      obtain ⟨c, hc⟩ : ∃ c, c = s.data.toList.getD i 0 := ⟨_, rfl⟩
      have hold : wr.cell? ⟨G, i, none⟩ = some (.int .u8 ((c.toNat : Nat) : Int)) := by rw [gblk_cell h1, h4 i (Nat.le_refl _) hlt, ← hc]
      have hfz : wr.frozen? ⟨G, i, none⟩ = false := gblk_froz h1 i (by omega)
      have hc2 : c.toNat < 256 := c.toNat_lt
      have HCc := Aside0.mk hc
      clear h1 h2 h3 h4 hc
      by_cases hg1 : 97 ≤ c.toNat
      · by_cases hg2 : c.toNat ≤ 122
        · have hy := greatB_yes c hg1 hg2
          have HY := Aside0.mk hy
          clear hy
          have k1 : decide ((c.toNat : Int) ≥ 97) = true := decide_eq_true (by omega)
          have k2 : decide ((c.toNat : Int) ≤ 122) = true := decide_eq_true (by omega)
          go_wp2_with fail
          go_roundg g
          case measure => have := HK.out; omega
          case rel => exact ⟨i + 1, by first | rfl | (go_num; done), by omega, ⟨by have := HK.out; omega⟩, ⟨grB_step HC.out hlt _ (by rw [← HCc.out, HY.out])⟩, ⟨Below.setCell HBr.out (by have := HG.out; show _ ≤ G; omega) _⟩⟩
        · have hy := greatB_no c (by omega)
          have HY := Aside0.mk hy
          clear hy
          have k1 : decide ((c.toNat : Int) ≥ 97) = true := decide_eq_true (by omega)
          have k2 : decide ((c.toNat : Int) ≤ 122) = false := decide_eq_false (by omega)
          go_wp2_with fail
          go_roundg g
          case measure => have := HK.out; omega
          case rel => exact ⟨i + 1, by first | rfl | (go_num; done), by omega, ⟨by have := HK.out; omega⟩, ⟨grB_skip HC.out hlt (by rw [← HCc.out, HY.out])⟩, HBr⟩
      · have hy := greatB_no c (by omega)
        have HY := Aside0.mk hy
        clear hy
        have k1 : decide ((c.toNat : Int) ≥ 97) = false := decide_eq_false (by omega)
        go_wp2_with fail
        go_roundg g
        case measure => have := HK.out; omega
        case rel => exact ⟨i + 1, by first | rfl | (go_num; done), by omega, ⟨by have := HK.out; omega⟩, ⟨grB_skip HC.out hlt (by rw [← HCc.out, HY.out])⟩, HBr⟩
    · have hin : i = s.size := by omega
      subst hin
      have hl : (s.data.toList.map greatB).length = s.size := by simp
      have hcv := run_convert_bytes_back (P := Tryd.prog) wr 55 9 5 ⟨G, 0, none⟩ cap (s.data.toList.map greatB) Tryd.underlying55 Tryd.underlying5 Tryd.underlying9 (fun j hj => by
        obtain ⟨cs, h1, h2, h3, h4⟩ := HC.out.ex
        have ha : (⟨G, 0, none⟩ : Addr).add j = ⟨G, j, none⟩ := by
          unfold Addr.add
          split
          · rename_i h8; subst h8; rfl
          · simp
        have hj2 : j < s.size := by rw [hl] at hj; exact hj
        rw [ha, gblk_cell h1, h3 j hj2, List.getElem_map, List.getD_eq_getElem?_getD, List.getElem?_eq_getElem (by rw [Array.length_toList]; exact hj2)]; rfl)
      rw [hl] at hcv
      clear hl
      go_wp2_with fail
      go_ret
      exact ⟨rfl, HBr.out⟩
def line_Great.f (a0 : ByteArray) : Option ByteArray := if a0.size ≤ 9223372036854775807 then some (greatS a0) else none
theorem line_Great.calls (a0 : ByteArray) (r : ByteArray) (w : World) (hG : GG w) (h : line_Great.f a0 = some r) :
    Calls Tryd.prog 95 #[.string a0] w fun e w' => e = .returned (.string r) ∧ Below w.heap.size w w' := by
  unfold line_Great.f at h
  by_cases hs : a0.size ≤ 9223372036854775807
  · rw [if_pos hs] at h
    obtain rfl := Option.some.inj h
    exact great_walk a0 w hs
  · rw [if_neg hs] at h; cases h
end Go.Proofs.YtknmbalhbecdhaaDoor.Print
