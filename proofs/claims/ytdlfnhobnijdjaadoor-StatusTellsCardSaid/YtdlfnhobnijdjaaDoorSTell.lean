/- status.Tell, walked. -/
import Derived.Test.YtdlfnhobnijdjaaDoorSPlaces
set_option linter.unusedVariables false
set_option linter.unusedSimpArgs false
namespace Go.Proofs.YtdlfnhobnijdjaaDoor.Sts
open Go.RowKit Go.Extern.Stop Go.Stop Go.Extern

theorem mn2_int (k k' : IntKind) (x y : Int) : Builtin.min2 (.int k x) (.int k' y) = pure (.int k (if y < x then y else x)) := by simp only [Builtin.min2]
theorem mn_two (ats : Array TypeId) (ty : TypeId) (a b : Value) : Builtin.min_ ats ty #[a, b] = (Builtin.min2 a b >>= fun s => pure s) := by simp only [Builtin.min_, List.foldlM_cons, List.foldlM_nil]
attribute [local go_sem] mn2_int mn_two
/-- A list of strings in the world. -/
structure Strs (W : World) (a : Option Addr) (len cap : Nat) (zs : List ByteArray) : Prop where
  len_eq : zs.length = len
  cap_le : len ≤ cap
  none_eq : a = none → len = 0 ∧ cap = 0
  cell : ∀ x, a = some x → ∀ i, i < len → W.cell? (x.add i) = some (.string (zs.getD i ByteArray.empty))
theorem Strs.lt {W : World} {a : Option Addr} {len cap : Nat} {zs : List ByteArray} (h : Strs W a len cap zs) (i : Nat) (hi : i < len) : ∃ x, a = some x ∧ W.cell? (x.add i) = some (.string (zs.getD i ByteArray.empty)) := by
  cases a with
  | none => have := (h.none_eq rfl).1; omega
  | some x => exact ⟨x, rfl, h.cell x rfl i hi⟩
theorem Tell_zero (a : Option Addr) (len cap : Nat) (w : World) :
    Calls Tryd.prog 5 #[.int .i64 0, .slice a len cap] w fun ev w' => ev = .returned (.tuple #[.string ⟨#[50, 46, 48]⟩, .string ⟨#[]⟩]) ∧ w' = w := by
  go_enter Tryd.func5, Tryd.ntmps5
  go_wp2
  go_ret2
  exact ⟨rfl, rfl⟩
theorem plc_len : ∀ (L : List ByteArray), (∀ z ∈ L, z.size ≤ 200) → (plc L).length ≤ 202 * L.length
  | [], _ => by simp [plc]
  | s :: L, h => by
    have h1 := h s (by simp)
    have h2 := plc_len L (fun z hz => h z (by simp [hz]))
    have e2 : s.data.toList.length = s.size := by rw [Array.length_toList]; rfl
    simp only [plc, List.length_append, List.length_cons, List.length_nil]
    omega
set_option maxHeartbeats 4000000 in
set_option maxRecDepth 1000000 in
theorem Tell_walk (e : Int) (he : e ≠ 0) (a : Option Addr) (len cap : Nat) (zs : List ByteArray) (w : World) (hg : ErrT w) (hS : Strs w a len cap zs) (hlen : len ≤ 200) (hsz : ∀ z ∈ zs, z.size ≤ 200) :
    Calls Tryd.prog 5 #[.int .i64 e, .slice a len cap] w fun ev w' => ev = .returned (.tuple #[.string (clsOf e), .string ⟨(plc (zs.take (min len 60)).reverse).toArray⟩]) ∧ Below w.heap.size w w' := by
  have h0 : (e == 0) = false := beq_eq_false_iff_ne.2 he
  obtain ⟨n, hn⟩ : ∃ n, min len 60 = n := ⟨_, rfl⟩
  have hmin : (if (60 : Int) < (len : Int) then (60 : Int) else (len : Int)) = (n : Int) := by split <;> omega
  rw [hn]
  have HS := Aside0.mk hS
  have HZ := Aside0.mk hsz
  have HG := Aside0.mk hg
  have hcap := hS.cap_le
  have hd1 : decide (n ≤ cap) = true := decide_eq_true (by omega)
  clear hS hsz hg
  go_enter Tryd.func5, Tryd.ntmps5
  go_wp2
  go_loopg [6, 19] n (fun g v6 v19 wr => ∃ i : Nat, v19 = .int .i64 i ∧ i ≤ n ∧ Aside0 (n ≤ i + g) ∧ Aside0 (Chain wr e v6 (zs.take i).reverse) ∧ Aside0 (Below w.heap.size w wr))
  case atStart => exact ⟨0, rfl, by omega, ⟨by omega⟩, ⟨.num⟩, ⟨Below.refl _ _⟩⟩
  case round =>
    obtain ⟨i, rfl, hi, HI, HC, HB⟩ := hrel
    obtain ⟨T, v, rfl⟩ := HC.out.iface
    by_cases hlt : i < n
    · obtain ⟨x, rfl, hcell0⟩ := HS.out.lt i (by omega)
      have hcell := (HB.out.cell (cell_lt hcell0)).trans hcell0
      clear hcell0
      have hd : decide (i < n) = true := decide_eq_true hlt
      have HL : Aside0 ((zs.take (i + 1)).reverse = zs.getD i ByteArray.empty :: (zs.take i).reverse) := ⟨by
        have hl : i < zs.length := by rw [HS.out.len_eq]; omega
        rw [List.take_succ_eq_append_getElem hl, List.reverse_append, List.getD_eq_getElem?_getD, List.getElem?_eq_getElem hl]; rfl⟩
      generalize zs.getD i ByteArray.empty = s at *
      cases gk with
      | zero => exfalso; have := HI.out; omega
      | succ g =>
      go_wp2
      go_roundg g
      case measure => have := HI.out; omega
      case rel =>
        have hal := (Below.refl wr.heap.size wr).alloc (Nat.le_refl _) (.cells #[.string s, .iface T v] 33)
        refine ⟨i + 1, by first | (go_num; done) | (congr 1; unfold wrap64; omega), by omega, ⟨by have := HI.out; omega⟩, ⟨?_⟩, ⟨HB.out.trans (hal.mono HB.out.size)⟩⟩
        rw [HL.out]
        exact .wrap _ s _ _ (by rw [World.cell?_alloc_at _ _ _ _ rfl]; rfl) (by rw [World.cell?_alloc_at _ _ _ _ rfl]; rfl) (HC.out.under hal)
    · have hd : decide (i < n) = false := decide_eq_false hlt
      have hin : i = n := by omega
      subst hin
      have hsz := HB.out.size
      have hpl : (plc (zs.take i).reverse).length ≤ 1000000 := by
        have h1 := plc_len (zs.take i).reverse (fun z hz => HZ.out z (List.mem_of_mem_take (List.mem_reverse.1 hz)))
        rw [List.length_reverse, List.length_take] at h1
        omega
      have HP := Aside0.mk hpl
      clear hpl
      go_wp2_with (go_at_call 8; refine (class_walk T v e _ (fun b w' hb => is_chain e b w' _ _ (HC.out.under hb))).mono ?_; rintro e1 w1 ⟨rfl, hB1⟩)
      go_at_call 9
      have hB2 := HB.out.trans (hB1.mono hsz)
      refine (places_walk e _ _ w1 (HG.out.under hB2) (HC.out.under hB1) HP.out).mono ?_
      rintro e2 w2 ⟨rfl, hB3⟩
      go_wp2
      go_ret2
      exact ⟨rfl, hB2.trans (hB3.mono hB2.size)⟩
end Go.Proofs.YtdlfnhobnijdjaaDoor.Sts
