/- What a law is given, read as the walks ask for it: kind by kind. -/
import Derived.Test.YtknmbalhbecdhaaDoorProg
import Derived.Test.YtknmbalhbecdhaaDoorWMore
import Derived.SliceStrings
import Derived.ProofKit
import Derived.SizedLaws
import Derived.Deep.Slices
set_option linter.unusedVariables false
set_option linter.unusedSimpArgs false
namespace Go.Proofs.YtknmbalhbecdhaaDoor.Args
open Go Go.RowKit Go.Lib Go.Proofs.YtknmbalhbecdhaaDoorW.PrintWords

/-- A type's data read as a kind, with what the form's reach says of it. -/
def Rd {α : Type} (d : Kd α) (t : TypeId) (B : α → Prop) : Prop := ∀ (H : Type) (enc : TypeId × Value → H) (W : World) (fuel : Nat) (cs : List Value) (x : DataW H × List MemPlace), DataW.trod enc Tryd.prog W 0 (fun _ => true) true fuel t cs = some x → (∀ n ∈ x.1.weights Tryd.prog t, n ≤ reachBytes) → ∃ a, d.K W a cs ∧ B a
theorem Rd.string {t : TypeId} (ht : Tryd.prog.underlying t = some .string) : Rd Kd.string t (fun s => s.size ≤ 140737488351232) := by
  intro H enc W fuel cs x h hw
  obtain ⟨s, rfl, rfl, _⟩ := DataW.trod_string ht h
  refine ⟨s, rfl, ?_⟩
  have := hw s.data.toList.length (by simp [DataW.weights])
  rw [Array.length_toList] at this
  exact this
theorem Rd.int {k : IntKind} {t : TypeId} (ht : Tryd.prog.underlying t = some (.int k)) : Rd (Kd.int k) t (fun n => (Lit.int k n).wf = true) := by
  intro H enc W fuel cs x h hw
  obtain ⟨n, rfl, rfl, hn⟩ := DataW.trod_int ht h
  exact ⟨n, rfl, hn⟩
theorem Rd.bool {t : TypeId} (ht : Tryd.prog.underlying t = some .bool) : Rd Kd.bool t (fun _ => True) := by
  intro H enc W fuel cs x h hw
  obtain ⟨b, rfl, rfl⟩ := DataW.trod_bool ht h
  exact ⟨b, rfl, trivial⟩
theorem exists_list {α : Type} {Q : Nat → α → Prop} : ∀ (n : Nat), (∀ i, i < n → ∃ a, Q i a) → ∃ l : List α, l.length = n ∧ ∀ i a, l[i]? = some a → Q i a
  | 0, _ => ⟨[], rfl, fun i a h => by simp at h⟩
  | n + 1, h => by
    obtain ⟨l, hl, hq⟩ := exists_list n (fun i hi => h i (by omega))
    obtain ⟨a, ha⟩ := h n (by omega)
    refine ⟨l ++ [a], by simp [hl], fun i b hb => ?_⟩
    by_cases hi : i < n
    · rw [List.getElem?_append_left (by omega)] at hb; exact hq i b hb
    · have hlt := (List.getElem?_eq_some_iff.1 hb).1
      rw [List.length_append, List.length_singleton] at hlt
      obtain rfl : i = n := by omega
      rw [List.getElem?_append_right (by omega), hl, Nat.sub_self] at hb
      obtain rfl : a = b := by simpa using hb
      exact ha
theorem mem_weightsAll {H : Type} {e : TypeId} {d : DataW H} : ∀ {l : List (DataW H)}, d ∈ l → ∀ n ∈ d.weights Tryd.prog e, n ∈ DataW.weightsAll Tryd.prog e l
  | x :: t, h, n, hn => by
    simp only [DataW.weightsAll, List.mem_append]
    rcases List.mem_cons.1 h with rfl | h
    · exact .inl hn
    · exact .inr (mem_weightsAll h n hn)
theorem Rd.slice {α : Type} {d : Kd α} {t e : TypeId} {B : α → Prop} (ht : Tryd.prog.underlying t = some (.slice e)) (hc : Tryd.prog.cellsOf e = d.sz) (hz : 0 < d.sz) (nb : Nat) (hnb : Tryd.prog.bytesOf e = nb) (hd : Rd d e B) : Rd (Kd.slice e d) t (fun l => l.length * nb ≤ 140737488351232 ∧ ∀ a ∈ l, B a) := by
  subst hnb
  intro H enc W fuel cs x h hw
  rcases DataW.trod_slice ht h with ⟨rfl, rfl⟩ | ⟨a, len, cap, elems, rest, n, rfl, rfl, rfl, _, hlc, hcm, hel, hget, _, _⟩
  · exact ⟨[], ⟨none, 0, rfl, Nat.le_refl _, rfl, by simp, fun h => absurd h (by simp)⟩, by simp, fun a h => by simp at h⟩
  · have hws : ∀ q ∈ ((DataW.slice (elems.map (·.1)) (rest.map (·.1))) : DataW H).weights Tryd.prog t, q ≤ reachBytes := hw
    simp only [DataW.weights, ht] at hws
    have hq : ∀ i, i < len → ∃ a', ∃ c : List Value, (c.length = d.sz ∧ d.K W a' c ∧ ∀ j u, c[j]? = some u → W.cell? (a.add (i * d.sz + j)) = some u) ∧ B a' := by
      intro i hi
      have h1 := hget i hi
      have hie : i < elems.length := by omega
      rw [List.getElem?_eq_getElem hie] at h1
      obtain ⟨cs', hcs, htr⟩ := Option.bind_eq_some_iff.1 h1
      obtain ⟨_, hcl, hcc⟩ := World.cells?_some hcs
      obtain ⟨a', hK, hB⟩ := hd H enc W n cs' elems[i] htr (fun q hq => hws q (List.mem_cons_of_mem _ (List.mem_append_left _ (mem_weightsAll (List.mem_map.2 ⟨elems[i], List.getElem_mem hie, rfl⟩) q hq))))
      refine ⟨a', cs', ⟨by rw [hcl, hc], hK, fun j u hu => ?_⟩, hB⟩
      have hj : j < Tryd.prog.cellsOf e := by have := (List.getElem?_eq_some_iff.1 hu).1; omega
      have h2 := hcc j hj
      rw [Go.Deep.add_add, hc] at h2
      rw [h2, hu]
    obtain ⟨l, hl, hQ⟩ := exists_list len hq
    refine ⟨l, ⟨some a, cap, by rw [hl], by omega, rfl, by unfold maxLen at hcm; omega, fun _ => ⟨a, rfl, fun j p hj => ?_⟩⟩, ?_, fun p hp => ?_⟩
    · obtain ⟨c, ⟨h1, h2, h3⟩, _⟩ := hQ j p hj
      exact ⟨c, h1, h2, h3⟩
    · have := hws _ List.mem_cons_self
      rw [List.length_map, List.length_map, hel] at this
      rw [hl]
      refine Nat.le_trans (Nat.mul_le_mul_right _ (by omega)) this
    · obtain ⟨i, hi, rfl⟩ := List.mem_iff_getElem.1 hp
      exact (hQ i _ (List.getElem?_eq_getElem hi)).choose_spec.2
/-- Fields, one behind the other. -/
def Trods {H : Type} (enc : TypeId × Value → H) (W : World) (fuel : Nat) : List TypeId → List Value → List (DataW H × List MemPlace) → Prop
  | [], cs, xs => cs = [] ∧ xs = []
  | t :: ts, cs, xs => ∃ c0 c1 x0 x1, cs = c0 ++ c1 ∧ xs = x0 :: x1 ∧ DataW.trod enc Tryd.prog W 0 (fun _ => true) true fuel t c0 = some x0 ∧ Trods enc W fuel ts c1 x1
def RdF {α : Type} (d : Kd α) (ts : List TypeId) (B : α → Prop) : Prop := ∀ (H : Type) (enc : TypeId × Value → H) (W : World) (fuel : Nat) (cs : List Value) (xs : List (DataW H × List MemPlace)), Trods enc W fuel ts cs xs → (∀ n ∈ DataW.weightsEach Tryd.prog ts (xs.map (·.1)), n ≤ reachBytes) → ∃ a, d.K W a cs ∧ B a
theorem RdF.one {α : Type} {d : Kd α} {t : TypeId} {B : α → Prop} (h : Rd d t B) : RdF d [t] B := by
  intro H enc W fuel cs xs ht hw
  obtain ⟨c0, c1, x0, x1, rfl, rfl, h0, rfl, rfl⟩ := ht
  rw [List.append_nil]
  exact h H enc W fuel c0 x0 h0 (fun n hn => hw n (by simp only [List.map_cons, DataW.weightsEach]; exact List.mem_append_left _ hn))
theorem RdF.cons {α β : Type} {d0 : Kd α} {d1 : Kd β} {t : TypeId} {ts : List TypeId} {B0 : α → Prop} {B1 : β → Prop} (h0 : Rd d0 t B0) (h1 : RdF d1 ts B1) : RdF (Kd.pair d0 d1) (t :: ts) (fun x => B0 x.1 ∧ B1 x.2) := by
  intro H enc W fuel cs xs ht hw
  obtain ⟨c0, c1, x0, x1, rfl, rfl, g0, g1⟩ := ht
  obtain ⟨a, ha, hb⟩ := h0 H enc W fuel c0 x0 g0 (fun n hn => hw n (by simp only [List.map_cons, DataW.weightsEach]; exact List.mem_append_left _ hn))
  obtain ⟨b, hb1, hb2⟩ := h1 H enc W fuel c1 x1 g1 (fun n hn => hw n (by simp only [List.map_cons, DataW.weightsEach]; exact List.mem_append_right _ hn))
  exact ⟨(a, b), ⟨c0, c1, rfl, ha, hb1⟩, hb, hb2⟩
/-- Do the fields lie one behind the other? -/
def contig (P : Program) (total : Nat) : Nat → List Field → Bool
  | o, [] => o == total
  | o, f :: r => f.offset == o && contig P total (o + P.cellsOf f.type) r
theorem contig_le {total : Nat} : ∀ {fs : List Field} {o : Nat}, contig Tryd.prog total o fs = true → o ≤ total
  | [], o, h => by have : o = total := by simpa [contig] using h
                   omega
  | f :: r, o, h => by
    simp only [contig, Bool.and_eq_true] at h
    have := contig_le h.2
    omega
theorem trods_of {H : Type} {enc : TypeId × Value → H} {W : World} {n : Nat} {cs : List Value} : ∀ (fs : List Field) (xs : List (DataW H × List MemPlace)) (o : Nat), contig Tryd.prog cs.length o fs = true → xs.length = fs.length →
    (∀ (i : Nat) (f : Field), fs[i]? = some f → DataW.trod enc Tryd.prog W 0 (fun _ => true) true n f.type ((cs.drop f.offset).take (Tryd.prog.cellsOf f.type)) = xs[i]?) → Trods enc W n (fs.map (·.type)) (cs.drop o) xs
  | [], xs, o, hc, hl, _ => by
    have : o = cs.length := by simpa [contig] using hc
    exact ⟨List.drop_eq_nil_of_le (by omega), List.length_eq_zero_iff.1 hl⟩
  | f :: r, xs, o, hc, hl, h => by
    simp only [contig, Bool.and_eq_true, beq_iff_eq] at hc
    cases xs with
    | nil => simp at hl
    | cons x0 x1 =>
      have h0 := h 0 f rfl
      have hoff := hc.1
      have hle := contig_le hc.2
      refine ⟨(cs.drop o).take (Tryd.prog.cellsOf f.type), cs.drop (o + Tryd.prog.cellsOf f.type), x0, x1, ?_, rfl, by rw [hoff] at h0; exact h0, trods_of r x1 _ hc.2 (by simpa using hl) (fun i g hg => h (i + 1) g hg)⟩
      rw [← List.drop_drop, List.take_append_drop]
theorem Rd.struct {α β : Type} {d : Kd α} {t : TypeId} {fs : Array Field} {B : α → Prop} (f : β → α) (g : α → β) (hfg : ∀ a, f (g a) = a) (ht : Tryd.prog.underlying t = some (.struct fs)) (hc : contig Tryd.prog (Tryd.prog.cellsOf t) 0 fs.toList = true) (h : RdF d (fs.toList.map (·.type)) B) : Rd (Kd.iso d f) t (fun b => B (f b)) := by
  intro H enc W fuel cs x hx hw
  obtain ⟨xs, n, rfl, rfl, hl, hlen, hf⟩ := DataW.trod_struct ht hx
  have hT := trods_of (enc := enc) (W := W) (n := n) (cs := cs) fs.toList xs 0 (by rw [hl]; exact hc) (by simpa using hlen) (fun i q hq => hf i q (by simpa using hq))
  rw [List.drop_zero] at hT
  obtain ⟨a, ha, hB⟩ := h H enc W n cs xs hT (fun q hq => hw q (by simp only [DataW.weights, ht]; exact hq))
  exact ⟨g a, by show d.K W (f (g a)) cs; rw [hfg]; exact ha, by show B (f (g a)); rw [hfg]; exact hB⟩
set_option maxRecDepth 100000 in
/-- An argument that is a struct: its cells. -/
theorem agg_of {α : Type} {d : Kd α} {t : TypeId} {fs : Array Field} {B : α → Prop} {r : Reach} {b0 : Nat} {v : Value} {H : Type} {enc : TypeId × Value → H} {W : World} {dd : DataW H} {p : List MemPlace} (ht : Tryd.prog.underlying t = some (.struct fs)) (h : Rd d t B) (hv : Value.okWide Tryd.prog W r b0 t v) (hd : DataW.Trod enc Tryd.prog W 0 (fun _ => true) true t v dd p) (hw : ∀ n ∈ dd.weights Tryd.prog t, n ≤ reachBytes) :
    ∃ a cs, v = .agg cs.toArray ∧ d.K W a cs ∧ B a := by
  obtain ⟨cs, rfl, _⟩ := Go.WideShapes.okWide_struct ht hv
  obtain ⟨fuel, hf⟩ := hd
  obtain ⟨a, hK, hB⟩ := h H enc W fuel _ _ hf hw
  refine ⟨a, cs.toList, by simp, ?_, hB⟩
  exact hK
end Go.Proofs.YtknmbalhbecdhaaDoor.Args
