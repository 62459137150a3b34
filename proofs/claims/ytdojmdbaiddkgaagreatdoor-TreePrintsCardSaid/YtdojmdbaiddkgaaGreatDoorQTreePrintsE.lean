/- Texts of the proof of TreePrints, put together: how a tree that is given is read (what stands not in the elder part). -/
import Derived.SliceStrings
import Derived.ProofKit
import Derived.SizedLaws
import Derived.Deep.Slices
import Derived.Below
import Derived.Deep.Draws
import Derived.Deep.AppendLies
import Derived.Maps.AppendAt
import Derived.OwnWalk
import Derived.Laws.BytesArg
import Derived.Laws.MakeOwn
import Derived.Laws.OwnMore
import Derived.Deep.OwnRows
import Derived.Tactics
import Derived.Lib.ConvBytes
import Derived.Laws.Slices
import Derived.WalkKit
import Derived.KernelRfl
import Derived.RowKit3
import Derived.Deep.LoopGhost
import Derived.Deep.QuietTactic
import Derived.BigQuiet
import Derived.WideLaws
import Derived.Deep.DeepCutAuto
import Derived.Deep.CutBlock
import Derived.Deep.RegionHeld3
import Derived.Laws.Rows
import Derived.Lib.AppendStr
import Derived.ArgAppend
import Derived.Laws.IdiomCopy
import Derived.OrdersHeld
import Derived.Laws.BitsLemmas
import Derived.RowKit
import Derived.Test.YtdojmdbaiddkgaaGreatDoorQTreePrintsD
section
set_option linter.unusedVariables false
set_option linter.unusedSimpArgs false
namespace Go.Proofs.YtdojmdbaiddkgaaGreatDoor.Args
open Go Go.RowKit Go.Lib Go.Proofs.YtdojmdbaiddkgaaGreatDoorW.PrintWords
theorem Rd.string {t : TypeId} (ht : Tryz.prog.underlying t = some .string) : Rd Kd.string t (fun s => s.size ≤ 140737488351232) := by
  intro H enc W fuel cs x h hw
  obtain ⟨s, rfl, rfl, _⟩ := DataW.trod_string ht h
  refine ⟨s, rfl, ?_⟩
  have := hw s.data.toList.length (by simp [DataW.weights])
  rw [Array.length_toList] at this
  exact this
theorem Rd.int {k : IntKind} {t : TypeId} (ht : Tryz.prog.underlying t = some (.int k)) : Rd (Kd.int k) t (fun n => (Lit.int k n).wf = true) := by
  intro H enc W fuel cs x h hw
  obtain ⟨n, rfl, rfl, hn⟩ := DataW.trod_int ht h
  exact ⟨n, rfl, hn⟩
theorem Rd.bool {t : TypeId} (ht : Tryz.prog.underlying t = some .bool) : Rd Kd.bool t (fun _ => True) := by
  intro H enc W fuel cs x h hw
  obtain ⟨b, rfl, rfl⟩ := DataW.trod_bool ht h
  exact ⟨b, rfl, trivial⟩
theorem exists_list {α : Type} {Q : Nat → α → Prop} : ∀ (n : Nat), (∀ i, i < n → ∃ a, Q i a) → ∃ l : List α, l.length = n ∧ ∀ i a, l[i]? = some a → Q i a
  | 0, _ => ⟨[], rfl, fun i a h => by simp at h⟩
  | n + 1, h => by
    obtain ⟨l, hl, hq⟩ := exists_list n (fun i hi => h i (by omega))
    obtain ⟨a, ha⟩ := h n (by omega)
    refine ⟨l ++ [a], by simp [hl], fun i b hb => ?_⟩
    by_cases hi : i < n
    · rw [List.getElem?_append_left (by omega)] at hb; exact hq i b hb
    · have hlt := (List.getElem?_eq_some_iff.1 hb).1
      rw [List.length_append, List.length_singleton] at hlt
      obtain rfl : i = n := by omega
      rw [List.getElem?_append_right (by omega), hl, Nat.sub_self] at hb
      obtain rfl : a = b := by simpa using hb
      exact ha
theorem mem_weightsAll {H : Type} {e : TypeId} {d : DataW H} : ∀ {l : List (DataW H)}, d ∈ l → ∀ n ∈ d.weights Tryz.prog e, n ∈ DataW.weightsAll Tryz.prog e l
  | x :: t, h, n, hn => by
    simp only [DataW.weightsAll, List.mem_append]
    rcases List.mem_cons.1 h with rfl | h
    · exact .inl hn
    · exact .inr (mem_weightsAll h n hn)
theorem Rd.slice {α : Type} {d : Kd α} {t e : TypeId} {B : α → Prop} (ht : Tryz.prog.underlying t = some (.slice e)) (hc : Tryz.prog.cellsOf e = d.sz) (hz : 0 < d.sz) (nb : Nat) (hnb : Tryz.prog.bytesOf e = nb) (hd : Rd d e B) : Rd (Kd.slice e d) t (fun l => l.length * nb ≤ 140737488351232 ∧ ∀ a ∈ l, B a) := by
  subst hnb
  intro H enc W fuel cs x h hw
  rcases DataW.trod_slice ht h with ⟨rfl, rfl⟩ | ⟨a, len, cap, elems, rest, n, rfl, rfl, rfl, _, hlc, hcm, hel, hget, _, _⟩
  · exact ⟨[], ⟨none, 0, rfl, Nat.le_refl _, rfl, by simp, fun h => absurd h (by simp)⟩, by simp, fun a h => by simp at h⟩
  · have hws : ∀ q ∈ ((DataW.slice (elems.map (·.1)) (rest.map (·.1))) : DataW H).weights Tryz.prog t, q ≤ reachBytes := hw
    simp only [DataW.weights, ht] at hws
    have hq : ∀ i, i < len → ∃ a', ∃ c : List Value, (c.length = d.sz ∧ d.K W a' c ∧ ∀ j u, c[j]? = some u → W.cell? (a.add (i * d.sz + j)) = some u) ∧ B a' := by
      intro i hi
      have h1 := hget i hi
      have hie : i < elems.length := by omega
      rw [List.getElem?_eq_getElem hie] at h1
      obtain ⟨cs', hcs, htr⟩ := Option.bind_eq_some_iff.1 h1
      obtain ⟨_, hcl, hcc⟩ := World.cells?_some hcs
      obtain ⟨a', hK, hB⟩ := hd H enc W n cs' elems[i] htr (fun q hq => hws q (List.mem_cons_of_mem _ (List.mem_append_left _ (mem_weightsAll (List.mem_map.2 ⟨elems[i], List.getElem_mem hie, rfl⟩) q hq))))
      refine ⟨a', cs', ⟨by rw [hcl, hc], hK, fun j u hu => ?_⟩, hB⟩
      have hj : j < Tryz.prog.cellsOf e := by have := (List.getElem?_eq_some_iff.1 hu).1; omega
      have h2 := hcc j hj
      rw [Go.Deep.add_add, hc] at h2
      rw [h2, hu]
    obtain ⟨l, hl, hQ⟩ := exists_list len hq
    refine ⟨l, ⟨some a, cap, by rw [hl], by omega, rfl, by unfold maxLen at hcm; omega, fun _ => ⟨a, rfl, fun j p hj => ?_⟩⟩, ?_, fun p hp => ?_⟩
    · obtain ⟨c, ⟨h1, h2, h3⟩, _⟩ := hQ j p hj
      exact ⟨c, h1, h2, h3⟩
    · have := hws _ List.mem_cons_self
      rw [List.length_map, List.length_map, hel] at this
      rw [hl]
      refine Nat.le_trans (Nat.mul_le_mul_right _ (by omega)) this
    · obtain ⟨i, hi, rfl⟩ := List.mem_iff_getElem.1 hp
      exact (hQ i _ (List.getElem?_eq_getElem hi)).choose_spec.2
theorem RdF.one {α : Type} {d : Kd α} {t : TypeId} {B : α → Prop} (h : Rd d t B) : RdF d [t] B := by
  intro H enc W fuel cs xs ht hw
  obtain ⟨c0, c1, x0, x1, rfl, rfl, h0, rfl, rfl⟩ := ht
  rw [List.append_nil]
  exact h H enc W fuel c0 x0 h0 (fun n hn => hw n (by simp only [List.map_cons, DataW.weightsEach]; exact List.mem_append_left _ hn))
theorem RdF.cons {α β : Type} {d0 : Kd α} {d1 : Kd β} {t : TypeId} {ts : List TypeId} {B0 : α → Prop} {B1 : β → Prop} (h0 : Rd d0 t B0) (h1 : RdF d1 ts B1) : RdF (Kd.pair d0 d1) (t :: ts) (fun x => B0 x.1 ∧ B1 x.2) := by
  intro H enc W fuel cs xs ht hw
  obtain ⟨c0, c1, x0, x1, rfl, rfl, g0, g1⟩ := ht
  obtain ⟨a, ha, hb⟩ := h0 H enc W fuel c0 x0 g0 (fun n hn => hw n (by simp only [List.map_cons, DataW.weightsEach]; exact List.mem_append_left _ hn))
  obtain ⟨b, hb1, hb2⟩ := h1 H enc W fuel c1 x1 g1 (fun n hn => hw n (by simp only [List.map_cons, DataW.weightsEach]; exact List.mem_append_right _ hn))
  exact ⟨(a, b), ⟨c0, c1, rfl, ha, hb1⟩, hb, hb2⟩
theorem contig_le {total : Nat} : ∀ {fs : List Field} {o : Nat}, contig Tryz.prog total o fs = true → o ≤ total
  | [], o, h => by have : o = total := by simpa [contig] using h
                   omega
  | f :: r, o, h => by
    simp only [contig, Bool.and_eq_true] at h
    have := contig_le h.2
    omega
theorem trods_of {H : Type} {enc : TypeId × Value → H} {W : World} {n : Nat} {cs : List Value} : ∀ (fs : List Field) (xs : List (DataW H × List MemPlace)) (o : Nat), contig Tryz.prog cs.length o fs = true → xs.length = fs.length →
    (∀ (i : Nat) (f : Field), fs[i]? = some f → DataW.trod enc Tryz.prog W 0 (fun _ => true) true n f.type ((cs.drop f.offset).take (Tryz.prog.cellsOf f.type)) = xs[i]?) → Trods enc W n (fs.map (·.type)) (cs.drop o) xs
  | [], xs, o, hc, hl, _ => by
    have : o = cs.length := by simpa [contig] using hc
    exact ⟨List.drop_eq_nil_of_le (by omega), List.length_eq_zero_iff.1 hl⟩
  | f :: r, xs, o, hc, hl, h => by
    simp only [contig, Bool.and_eq_true, beq_iff_eq] at hc
    cases xs with
    | nil => simp at hl
    | cons x0 x1 =>
      have h0 := h 0 f rfl
      have hoff := hc.1
      have hle := contig_le hc.2
      refine ⟨(cs.drop o).take (Tryz.prog.cellsOf f.type), cs.drop (o + Tryz.prog.cellsOf f.type), x0, x1, ?_, rfl, by rw [hoff] at h0; exact h0, trods_of r x1 _ hc.2 (by simpa using hl) (fun i g hg => h (i + 1) g hg)⟩
      rw [← List.drop_drop, List.take_append_drop]
theorem Rd.struct {α β : Type} {d : Kd α} {t : TypeId} {fs : Array Field} {B : α → Prop} (f : β → α) (g : α → β) (hfg : ∀ a, f (g a) = a) (ht : Tryz.prog.underlying t = some (.struct fs)) (hc : contig Tryz.prog (Tryz.prog.cellsOf t) 0 fs.toList = true) (h : RdF d (fs.toList.map (·.type)) B) : Rd (Kd.iso d f) t (fun b => B (f b)) := by
  intro H enc W fuel cs x hx hw
  obtain ⟨xs, n, rfl, rfl, hl, hlen, hf⟩ := DataW.trod_struct ht hx
  have hT := trods_of (enc := enc) (W := W) (n := n) (cs := cs) fs.toList xs 0 (by rw [hl]; exact hc) (by simpa using hlen) (fun i q hq => hf i q (by simpa using hq))
  rw [List.drop_zero] at hT
  obtain ⟨a, ha, hB⟩ := h H enc W n cs xs hT (fun q hq => hw q (by simp only [DataW.weights, ht]; exact hq))
  exact ⟨g a, by show d.K W (f (g a)) cs; rw [hfg]; exact ha, by show B (f (g a)); rw [hfg]; exact hB⟩
set_option maxRecDepth 100000 in
/-- An argument that is a struct: its cells. -/
theorem agg_of {α : Type} {d : Kd α} {t : TypeId} {fs : Array Field} {B : α → Prop} {r : Reach} {b0 : Nat} {v : Value} {H : Type} {enc : TypeId × Value → H} {W : World} {dd : DataW H} {p : List MemPlace} (ht : Tryz.prog.underlying t = some (.struct fs)) (h : Rd d t B) (hv : Value.okWide Tryz.prog W r b0 t v) (hd : DataW.Trod enc Tryz.prog W 0 (fun _ => true) true t v dd p) (hw : ∀ n ∈ dd.weights Tryz.prog t, n ≤ reachBytes) :
    ∃ a cs, v = .agg cs.toArray ∧ d.K W a cs ∧ B a := by
  obtain ⟨cs, rfl, _⟩ := Go.WideShapes.okWide_struct ht hv
  obtain ⟨fuel, hf⟩ := hd
  obtain ⟨a, hK, hB⟩ := h H enc W fuel _ _ hf hw
  refine ⟨a, cs.toList, by simp, ?_, hB⟩
  exact hK
end Go.Proofs.YtdojmdbaiddkgaaGreatDoor.Args
end
section
namespace Go.Proofs.YtdojmdbaiddkgaaGreatDoor.Print
open Go.RowKit Go.Proofs.YtdojmdbaiddkgaaGreatDoorW.PrintWords Go.Proofs.YtdojmdbaiddkgaaGreatDoorW.PrintLast
set_option linter.unusedVariables false
set_option linter.unusedSimpArgs false
theorem mono25 : Kd.Mono F25 := Kd.mono_iso _ (Kd.mono_pair (Kd.mono_const _) (Kd.mono_pair (Kd.mono_const _) (Kd.mono_slice 25 Kd.mono_id)))
theorem k25_mk (w : World) (x : S25) {A1 : Option Addr} {c1 : Nat} (l1 : x.f1.length ≤ c1) (g1 : k53.C w A1 x.f1.length x.f1) {A2 : Option Addr} {c2 : Nat} (l2 : x.f2.length ≤ c2) (g2 : k25.C w A2 x.f2.length x.f2) : k25.K w x [.string x.f0, .slice A1 x.f1.length c1, .slice A2 x.f2.length c2] := by
  obtain ⟨n2, q2⟩ := Kd.fix_C_back mono25 g2
  have r2 := Kd.upto_C_le mono25 sz25 (show n2 ≤ n2 by omega) q2
  exact ⟨n2 + 1, ⟨[.string x.f0], [.slice A1 x.f1.length c1, .slice A2 x.f2.length c2], rfl, rfl, ⟨[.slice A1 x.f1.length c1], [.slice A2 x.f2.length c2], rfl, ⟨A1, c1, rfl, l1, g1⟩, ⟨A2, c2, rfl, l2, r2⟩⟩⟩⟩
end Go.Proofs.YtdojmdbaiddkgaaGreatDoor.Print
end
section
set_option linter.unusedVariables false
set_option linter.unusedSimpArgs false
namespace Go.Proofs.YtdojmdbaiddkgaaGreatDoor.Args
open Go Go.RowKit Go.Lib Go.Proofs.YtdojmdbaiddkgaaGreatDoorW.PrintWords Go.Proofs.YtdojmdbaiddkgaaGreatDoor.Print
theorem rdStrs : Rd (Kd.slice 9 Kd.string) 54 StrsB := Rd.slice Tryz.underlying54 (by kernel_rfl) (by decide) 16 (by kernel_rfl) (Rd.string Tryz.underlying9)
theorem rdPar : Rd k76 76 ParB :=
  Rd.struct (fun x : RParam => (x.f0, x.f1)) (fun a => ⟨a.1, a.2⟩) (fun _ => rfl) Tryz.underlying76 (by kernel_rfl) (RdF.cons (Rd.string Tryz.underlying9) (RdF.one rdStrs))
theorem rdLine : Rd (Kd.iso (Kd.pair Kd.string (Kd.pair (Kd.slice 76 k76) Kd.string)) (fun x : RLine => x)) 53 LineB :=
  Rd.struct (fun x : RLine => x) (fun a => a) (fun _ => rfl) Tryz.underlying53 (by kernel_rfl) (RdF.cons (Rd.string Tryz.underlying9) (RdF.cons (Rd.slice (t := 51) Tryz.underlying51 (by kernel_rfl) (by decide) 40 (by kernel_rfl) rdPar) (RdF.one (Rd.string Tryz.underlying9))))
/-- A line, as the walks ask for it. -/
def IsLine (W : World) (v : Value) (z : RLine) : Prop := LineB z ∧ ∃ A c, v = .agg #[.string z.1, .slice A z.2.1.length c, .string z.2.2] ∧ z.2.1.length ≤ c ∧ Kd.C k76 W A z.2.1.length z.2.1
set_option maxRecDepth 100000 in
theorem openLine {v : Value} {H : Type} {enc : TypeId × Value → H} {W : World} {r : Reach} {b0 : Nat} {d : DataW H} {p : List MemPlace} (hv : Value.okWide Tryz.prog W r b0 53 v) (hd : DataW.Trod enc Tryz.prog W 0 (fun _ => true) true 53 v d p) (hw : ∀ n ∈ d.weights Tryz.prog 53, n ≤ reachBytes) : ∃ z, IsLine W v z := by
  obtain ⟨z, cs, rfl, hK, hB⟩ := agg_of Tryz.underlying53 rdLine hv hd hw
  obtain ⟨c0, c1, rfl, rfl, c2, c3, rfl, ⟨A, c, rfl, hl, hC⟩, rfl⟩ := hK
  exact ⟨z, hB, A, c, rfl, hl, hC⟩
end Go.Proofs.YtdojmdbaiddkgaaGreatDoor.Args
end
section
set_option linter.unusedVariables false
set_option linter.unusedSimpArgs false
namespace Go.Proofs.YtdojmdbaiddkgaaGreatDoor.Args
open Go Go.RowKit Go.Lib Go.Proofs.YtdojmdbaiddkgaaGreatDoorW.PrintWords Go.Proofs.YtdojmdbaiddkgaaGreatDoor.Print
theorem RdN.of {α : Type} {N : Nat} {d : Kd α} {t : TypeId} {B : α → Prop} (h : Rd d t B) : RdN N d t B := fun H enc W fuel cs x _ hx hw => h H enc W fuel cs x hx hw
theorem RdN.slice {α : Type} {N : Nat} {d : Kd α} {t e : TypeId} {B : α → Prop} (ht : Tryz.prog.underlying t = some (.slice e)) (hc : Tryz.prog.cellsOf e = d.sz) (hz : 0 < d.sz) (nb : Nat) (hnb : Tryz.prog.bytesOf e = nb) (hd : RdN N d e B) : RdN N (Kd.slice e d) t (fun l => l.length * nb ≤ 140737488351232 ∧ ∀ a ∈ l, B a) := by
  subst hnb
  intro H enc W fuel cs x hN h hw
  rcases DataW.trod_slice ht h with ⟨rfl, rfl⟩ | ⟨a, len, cap, elems, rest, n, rfl, rfl, rfl, _, hlc, hcm, hel, hget, _, _⟩
  · exact ⟨[], ⟨none, 0, rfl, Nat.le_refl _, rfl, by simp, fun h => absurd h (by simp)⟩, by simp, fun a h => by simp at h⟩
  · have hws : ∀ q ∈ ((DataW.slice (elems.map (·.1)) (rest.map (·.1))) : DataW H).weights Tryz.prog t, q ≤ reachBytes := hw
    simp only [DataW.weights, ht] at hws
    have hq : ∀ i, i < len → ∃ a', ∃ c : List Value, (c.length = d.sz ∧ d.K W a' c ∧ ∀ j u, c[j]? = some u → W.cell? (a.add (i * d.sz + j)) = some u) ∧ B a' := by
      intro i hi
      have h1 := hget i hi
      have hie : i < elems.length := by omega
      rw [List.getElem?_eq_getElem hie] at h1
      obtain ⟨cs', hcs, htr⟩ := Option.bind_eq_some_iff.1 h1
      obtain ⟨_, hcl, hcc⟩ := World.cells?_some hcs
      obtain ⟨a', hK, hB⟩ := hd H enc W n cs' elems[i] (by omega) htr (fun q hq => hws q (List.mem_cons_of_mem _ (List.mem_append_left _ (mem_weightsAll (List.mem_map.2 ⟨elems[i], List.getElem_mem hie, rfl⟩) q hq))))
      refine ⟨a', cs', ⟨by rw [hcl, hc], hK, fun j u hu => ?_⟩, hB⟩
      have hj : j < Tryz.prog.cellsOf e := by have := (List.getElem?_eq_some_iff.1 hu).1; omega
      have h2 := hcc j hj
      rw [Go.Deep.add_add, hc] at h2
      rw [h2, hu]
    obtain ⟨l, hl, hQ⟩ := exists_list len hq
    refine ⟨l, ⟨some a, cap, by rw [hl], by omega, rfl, by unfold maxLen at hcm; omega, fun _ => ⟨a, rfl, fun j p hj => ?_⟩⟩, ?_, fun p hp => ?_⟩
    · obtain ⟨c, ⟨h1, h2, h3⟩, _⟩ := hQ j p hj
      exact ⟨c, h1, h2, h3⟩
    · have := hws _ List.mem_cons_self
      rw [List.length_map, List.length_map, hel] at this
      rw [hl]
      refine Nat.le_trans (Nat.mul_le_mul_right _ (by omega)) this
    · obtain ⟨i, hi, rfl⟩ := List.mem_iff_getElem.1 hp
      exact (hQ i _ (List.getElem?_eq_getElem hi)).choose_spec.2
theorem RdFN.one {α : Type} {N : Nat} {d : Kd α} {t : TypeId} {B : α → Prop} (h : RdN N d t B) : RdFN N d [t] B := by
  intro H enc W fuel cs xs hN ht hw
  obtain ⟨c0, c1, x0, x1, rfl, rfl, h0, rfl, rfl⟩ := ht
  rw [List.append_nil]
  exact h H enc W fuel c0 x0 hN h0 (fun n hn => hw n (by simp only [List.map_cons, DataW.weightsEach]; exact List.mem_append_left _ hn))
theorem RdFN.cons {α β : Type} {N : Nat} {d0 : Kd α} {d1 : Kd β} {t : TypeId} {ts : List TypeId} {B0 : α → Prop} {B1 : β → Prop} (h0 : RdN N d0 t B0) (h1 : RdFN N d1 ts B1) : RdFN N (Kd.pair d0 d1) (t :: ts) (fun x => B0 x.1 ∧ B1 x.2) := by
  intro H enc W fuel cs xs hN ht hw
  obtain ⟨c0, c1, x0, x1, rfl, rfl, g0, g1⟩ := ht
  obtain ⟨a, ha, hb⟩ := h0 H enc W fuel c0 x0 hN g0 (fun n hn => hw n (by simp only [List.map_cons, DataW.weightsEach]; exact List.mem_append_left _ hn))
  obtain ⟨b, hb1, hb2⟩ := h1 H enc W fuel c1 x1 hN g1 (fun n hn => hw n (by simp only [List.map_cons, DataW.weightsEach]; exact List.mem_append_right _ hn))
  exact ⟨(a, b), ⟨c0, c1, rfl, ha, hb1⟩, hb, hb2⟩
theorem RdN.struct {α : Type} {N : Nat} {d : Kd α} {t : TypeId} {fs : Array Field} {B : α → Prop} (ht : Tryz.prog.underlying t = some (.struct fs)) (hc : contig Tryz.prog (Tryz.prog.cellsOf t) 0 fs.toList = true) (h : RdFN N d (fs.toList.map (·.type)) B) : RdN (N + 1) d t B := by
  intro H enc W fuel cs x hN hx hw
  obtain ⟨xs, n, rfl, rfl, hl, hlen, hf⟩ := DataW.trod_struct ht hx
  have hT := trods_of (enc := enc) (W := W) (n := n) (cs := cs) fs.toList xs 0 (by rw [hl]; exact hc) (by simpa using hlen) (fun i q hq => hf i q (by simpa using hq))
  rw [List.drop_zero] at hT
  exact h H enc W n cs xs (by omega) hT (fun q hq => hw q (by simp only [DataW.weights, ht]; exact hq))
theorem TBs_mk : ∀ l : List RTree, (∀ t ∈ l, Pure.TB t) → Pure.TBs l
  | [], _ => by simp [Pure.TBs]
  | t :: r, h => by
    simp only [Pure.TBs]
    exact ⟨h t (by simp), TBs_mk r (fun x hx => h x (by simp [hx]))⟩
theorem rdLineS : Rd k53 53 (fun x => LineB (x.f0, x.f1, x.f2)) :=
  Rd.struct (B := LineB) (fun x : S53 => (x.f0, x.f1, x.f2)) (fun a => ⟨a.1, a.2.1, a.2.2⟩) (fun _ => rfl) Tryz.underlying53 (by kernel_rfl) (RdF.cons (Rd.string Tryz.underlying9) (RdF.cons (Rd.slice (t := 51) Tryz.underlying51 (by kernel_rfl) (by decide) 40 (by kernel_rfl) rdPar) (RdF.one (Rd.string Tryz.underlying9))))
theorem LB_of {x : S53} (h : LineB (x.f0, x.f1, x.f2)) : Pure.LB x := ⟨by have := h.2.1.1; simp only at this; omega, fun p hp => by have := (h.2.1.2 p hp).2.1; omega⟩
theorem rdTree : ∀ N, RdN N k25 25 Pure.TB
  | 0 => by
    intro H enc W fuel cs x hN hx hw
    obtain ⟨xs, n, rfl, rfl, hl, hlen, hf⟩ := DataW.trod_struct Tryz.underlying25 hx
    omega
  | N + 1 => by
    intro H enc W fuel cs x hN hx hw
    have h := RdN.struct (N := N) (d := Kd.pair Kd.string (Kd.pair (Kd.slice 53 k53) (Kd.slice 25 k25))) Tryz.underlying25 (by kernel_rfl)
      (RdFN.cons (RdN.of (Rd.string Tryz.underlying9)) (RdFN.cons (RdN.of (Rd.slice (t := 22) Tryz.underlying22 (by kernel_rfl) (by decide) 56 (by kernel_rfl) rdLineS)) (RdFN.one (RdN.slice (t := 23) Tryz.underlying23 (by kernel_rfl) (by decide) 64 (by kernel_rfl) (rdTree N)))))
    obtain ⟨⟨a, l, ks⟩, ha, hB⟩ := h H enc W fuel cs x hN hx hw
    obtain ⟨_, _, rfl, rfl, ⟨_, _, rfl, ⟨A1, c1, rfl, l1, g1⟩, ⟨A2, c2, rfl, l2, g2⟩⟩⟩ := ha
    refine ⟨⟨a, l, ks⟩, k25_mk W ⟨a, l, ks⟩ l1 g1 l2 g2, ?_⟩
    simp only [Pure.TB]
    have b1 := hB.2.1.1
    have b2 := hB.2.2.1
    simp only at b1 b2
    exact ⟨⟨by omega, fun x hx => LB_of (hB.2.1.2 x hx)⟩, by omega, TBs_mk _ hB.2.2.2⟩
set_option maxRecDepth 100000 in
theorem openTree {v : Value} {H : Type} {enc : TypeId × Value → H} {W : World} {r : Reach} {b0 : Nat} {d : DataW H} {p : List MemPlace} (hv : Value.okWide Tryz.prog W r b0 25 v) (hd : DataW.Trod enc Tryz.prog W 0 (fun _ => true) true 25 v d p) (hw : ∀ n ∈ d.weights Tryz.prog 25, n ≤ reachBytes) : ∃ z, IsTree W v z := by
  obtain ⟨z, cs, rfl, hK, hB⟩ := agg_of Tryz.underlying25 (fun H enc W fuel cs x hx hw => rdTree fuel H enc W fuel cs x (Nat.le_refl _) hx hw) hv hd hw
  obtain ⟨A1, c1, A2, c2, rfl, l1, g1, l2, g2⟩ := k25_open hK
  exact ⟨z, hB, A1, c1, A2, c2, rfl, l1, g1, l2, g2⟩
end Go.Proofs.YtdojmdbaiddkgaaGreatDoor.Args
end
section
set_option linter.unusedVariables false
set_option linter.unusedSimpArgs false
namespace Go.Proofs.YtdojmdbaiddkgaaGreatDoor.Args
open Go Go.RowKit Go.Lib Go.Proofs.YtdojmdbaiddkgaaGreatDoorW.PrintWords Go.Proofs.YtdojmdbaiddkgaaGreatDoor.Print
theorem LS_of {x : S53} (h : LineB (x.f0, x.f1, x.f2)) : Pure.LS x := ⟨h.1, h.2.2, fun p hp => ⟨(h.2.1.2 p hp).1, (h.2.1.2 p hp).2.2⟩⟩
theorem TSs_mk : ∀ l : List RTree, (∀ t ∈ l, Pure.TS t) → Pure.TSs l
  | [], _ => by simp [Pure.TSs]
  | t :: r, h => by
    simp only [Pure.TSs]
    exact ⟨h t (by simp), TSs_mk r (fun x hx => h x (by simp [hx]))⟩
theorem rdTreeS : ∀ N, RdN N k25 25 (fun t => Pure.TB t ∧ Pure.TS t)
  | 0 => by
    intro H enc W fuel cs x hN hx hw
    obtain ⟨xs, n, rfl, rfl, hl, hlen, hf⟩ := DataW.trod_struct Tryz.underlying25 hx
    omega
  | N + 1 => by
    intro H enc W fuel cs x hN hx hw
    have h := RdN.struct (N := N) (d := Kd.pair Kd.string (Kd.pair (Kd.slice 53 k53) (Kd.slice 25 k25))) Tryz.underlying25 (by kernel_rfl)
      (RdFN.cons (RdN.of (Rd.string Tryz.underlying9)) (RdFN.cons (RdN.of (Rd.slice (t := 22) Tryz.underlying22 (by kernel_rfl) (by decide) 56 (by kernel_rfl) rdLineS)) (RdFN.one (RdN.slice (t := 23) Tryz.underlying23 (by kernel_rfl) (by decide) 64 (by kernel_rfl) (rdTreeS N)))))
    obtain ⟨⟨a, l, ks⟩, ha, hB⟩ := h H enc W fuel cs x hN hx hw
    obtain ⟨_, _, rfl, rfl, ⟨_, _, rfl, ⟨A1, c1, rfl, l1, g1⟩, ⟨A2, c2, rfl, l2, g2⟩⟩⟩ := ha
    refine ⟨⟨a, l, ks⟩, k25_mk W ⟨a, l, ks⟩ l1 g1 l2 g2, ?_⟩
    simp only [Pure.TB, Pure.TS]
    have b1 := hB.2.1.1
    have b2 := hB.2.2.1
    simp only at b1 b2
    exact ⟨⟨⟨by omega, fun x hx => LB_of (hB.2.1.2 x hx)⟩, by omega, TBs_mk _ (fun t ht => (hB.2.2.2 t ht).1)⟩, hB.1, fun x hx => LS_of (hB.2.1.2 x hx), TSs_mk _ (fun t ht => (hB.2.2.2 t ht).2)⟩
set_option maxRecDepth 100000 in
theorem openTreeS {v : Value} {H : Type} {enc : TypeId × Value → H} {W : World} {r : Reach} {b0 : Nat} {d : DataW H} {p : List MemPlace} (hv : Value.okWide Tryz.prog W r b0 25 v) (hd : DataW.Trod enc Tryz.prog W 0 (fun _ => true) true 25 v d p) (hw : ∀ n ∈ d.weights Tryz.prog 25, n ≤ reachBytes) : ∃ z, IsTree W v z ∧ Pure.TS z := by
  obtain ⟨z, cs, rfl, hK, hB⟩ := agg_of Tryz.underlying25 (fun H enc W fuel cs x hx hw => rdTreeS fuel H enc W fuel cs x (Nat.le_refl _) hx hw) hv hd hw
  obtain ⟨A1, c1, A2, c2, rfl, l1, g1, l2, g2⟩ := k25_open hK
  exact ⟨z, ⟨hB.1, A1, c1, A2, c2, rfl, l1, g1, l2, g2⟩, hB.2⟩
end Go.Proofs.YtdojmdbaiddkgaaGreatDoor.Args
end
