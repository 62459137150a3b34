/- Texts of the proof of TreePrints, put together: PParT PPrintT PFoldBT Print17 Print18 PFoldT Print15 Print19 PTreeP Print20 PTreeQ GoTreeP. -/
import Derived.Test.YtdojmdbaiddkgaaGreatDoorProg
import Derived.Below
import Derived.Deep.Draws
import Derived.Deep.AppendLies
import Derived.Maps.AppendAt
import Derived.OwnWalk
import Derived.Laws.BytesArg
import Derived.Laws.MakeOwn
import Derived.Laws.OwnMore
import Derived.Deep.OwnRows
import Derived.Tactics
import Derived.Lib.ConvBytes
import Derived.Laws.Slices
import Derived.WalkKit
import Derived.KernelRfl
import Derived.RowKit3
import Derived.Deep.LoopGhost
import Derived.Deep.QuietTactic
import Derived.BigQuiet
import Derived.WideLaws
import Derived.Deep.DeepCutAuto
import Derived.Deep.CutBlock
import Derived.Deep.RegionHeld3
import Derived.Laws.Rows
import Derived.Lib.AppendStr
import Derived.ArgAppend
import Derived.Laws.IdiomCopy
import Derived.OrdersHeld
import Derived.Laws.BitsLemmas
import Derived.RowKit
import Derived.Shelf.Unicode.ValidAny
import Derived.Shelf.Strings.Builder1
import Derived.Shelf.Strings.Builder2
import Derived.Shelf.Small.Utf8
import Derived.Shelf.Small.Strs
import Derived.Shelf.Strings.BuilderF
import Derived.Shelf.Strings.BuilderK
import Derived.Shelf.Strings.Builder2Cap
import Derived.Shelf.Strings.Search1
import Derived.Shelf.Strings.Search2
import Derived.Shelf.Strings.Search3
import Derived.Shelf.Strings.Count
import Derived.Shelf.LaysM
import Derived.Shelf.Strings.Shaped
import Derived.Shelf.Strings.Prefix
import Derived.Shelf.Strings.Runes
import Derived.Shelf.Strings.IndexAny
import Derived.Shelf.Strings.AsciiSet
import Derived.Shelf.Strings.IndexAnyAll
import Derived.Shelf.Unicode.DecodeSlow
import Derived.Shelf.Unicode.DecodeAny
import Derived.Shelf.Strings.BuilderCap
import Derived.Shelf.Slices.Equal
import Derived.Shelf.Slices.Empties2
import Derived.WalkSpells
import Derived.Laws.Runes
import Derived.Laws.RangeAny
import Derived.Laws.RangeString
import Derived.Lib.IndexAny
import Derived.Lib.SpaceUEq
import Derived.Lib.RuneCount
import Derived.Lib.QuoteLoop
import Derived.Lib.Hide
import Derived.Lib.OthersKept
import Derived.Lib.DecodeN
import Derived.IntWalk
import Derived.Test.YtdojmdbaiddkgaaGreatDoorWWords
import Derived.Test.YtdojmdbaiddkgaaGreatDoorWLast
import Derived.Test.YtdojmdbaiddkgaaGreatDoorWTab
import Derived.Test.YtdojmdbaiddkgaaGreatDoorWApart
import Derived.Test.YtdojmdbaiddkgaaGreatDoorWRepsOne
import Derived.Test.YtdojmdbaiddkgaaGreatDoorWGuard
import Derived.Lib.ValidU
import Derived.Lib.TrimUEq
import Derived.Lib.ValidLaws
import Derived.Lib.MapLaws
import Derived.Laws.CopyRow
import Derived.Laws.CopyOwn
import Derived.Deep.RegionWith
import Derived.Deep.WholeRow
import Derived.Outline
import Derived.Tactics2
import Derived.Defers
import Derived.Laws.Pointers
import Derived.Laws.LoneSync
import Derived.RegionTactic
import Derived.RegionCalls
import Derived.Lib.LazyBuf
import Derived.Laws.NewBlocks
import Derived.Lib.SmallJoins
import Derived.Shelf.Unicode.DecodeLastEight
import Derived.Laws.IdiomStrings
import Derived.Test.YtdojmdbaiddkgaaGreatDoorRows
import Derived.Lib.LaidU8T
import Derived.PinnedBridge
import Derived.MakeChecks
import Derived.ProofKit
import Derived.SliceStrings
import Derived.SizedLaws
import Derived.Deep.Slices
import Derived.Test.YtdojmdbaiddkgaaGreatDoorQTreePrintsC
section
set_option linter.unusedVariables false
set_option linter.unusedSimpArgs false
set_option linter.unusedSectionVars false
namespace Go.Proofs.YtdojmdbaiddkgaaGreatDoor.Pure
open Go.RowKit Go.Proofs.YtdojmdbaiddkgaaGreatDoor.Print Go.Proofs.YtdojmdbaiddkgaaGreatDoorW.PrintWords Go.Proofs.YtdojmdbaiddkgaaGreatDoorW.PrintLast
def paramW (x : ByteArray) : ByteArray × Int := if cleanR true x.data.toList = 0 then (parW x, 0) else (⟨#[]⟩, cleanR true x.data.toList)
def wI (L : List UInt8) : List Int := L.map fun b => (b.toNat : Int)
theorem str_wI (L : List UInt8) : strOfNums (wI L) = ⟨L.toArray⟩ := by simp only [wI]; exact Go.Lib.Lz.strOfNums_map L
theorem wI_len (L : List UInt8) : (wI L).length = L.length := by simp [wI]
theorem wI_app (L M : List UInt8) : wI L ++ wI M = wI (L ++ M) := by simp [wI]
theorem is_natW (c : UInt8) (n : Nat) (hn : n < 256) (h : c = n.toUInt8) : (c.toNat : Int) = (n : Int) := by subst h; simp; omega
theorem pa_step (k : Nat) (s : ByteArray) (A : List UInt8) (f : Bool) (i : Nat) (hi : i < s.size) (hs : s.size ≤ 100000) (hA : A.length ≤ 1000000) (c : UInt8) (hb : bt s (i : Int) = (c.toNat : Int)) :
    trystref08_Param.l0 (k + 1) s (wI A) f (s.size : Int) (i : Int) = trystref08_Param.l0 k s (wI (A ++ parB c)) (f || quoB c) (s.size : Int) ((i + 1 : Nat) : Int) := by
  have e3 : ([94, 94] : List Int) = wI [94, 94] := rfl
  have e2 : ([94, 110] : List Int) = wI [94, 110] := rfl
  have e1 : ([94, 39] : List Int) = wI [94, 39] := rfl
  have e0 : ([(c.toNat : Int)] : List Int) = wI [c] := rfl
  simp only [trystref08_Param.l0, hb, Option.bind_some, e3, e2, e1, e0, wI_app, wI_len]
  rw [if_pos (by omega), if_pos (by omega), if_pos (by omega), wrap_one i (by omega)]
  unfold parB
  by_cases h94 : c = 94
  · rw [if_pos (show (c.toNat : Int) = 94 from is_natW c 94 (by omega) h94), if_pos h94, if_pos (by simp; omega), h94, show quoB 94 = false from rfl, Bool.or_false]
  rw [if_neg (show ¬ (c.toNat : Int) = 94 from ne_nat c 94 (by omega) h94), if_neg h94]
  by_cases h10 : c = 10
  · rw [if_pos (show (c.toNat : Int) = 10 from is_natW c 10 (by omega) h10), if_pos h10, if_pos (by simp; omega), h10, show quoB 10 = false from rfl, Bool.or_false]
  rw [if_neg (show ¬ (c.toNat : Int) = 10 from ne_nat c 10 (by omega) h10), if_neg h10]
  by_cases h34 : c = 34
  · rw [if_pos (show (c.toNat : Int) = 34 from is_natW c 34 (by omega) h34), if_pos h34, if_pos (by simp; omega), h34, show quoB 34 = false from rfl, Bool.or_false]
  rw [if_neg (show ¬ (c.toNat : Int) = 34 from ne_nat c 34 (by omega) h34), if_neg h34]
  cases f
  · rw [if_neg (by simp), Bool.false_or]
    unfold quoB
    by_cases h58 : c = 58
    · rw [if_pos (show (c.toNat : Int) = 58 from is_natW c 58 (by omega) h58), if_pos (by omega), h58]; rfl
    rw [if_neg (show ¬ (c.toNat : Int) = 58 from ne_nat c 58 (by omega) h58)]
    by_cases h59 : c = 59
    · rw [if_pos (show (c.toNat : Int) = 59 from is_natW c 59 (by omega) h59), if_pos (by omega), h59]; rfl
    rw [if_neg (show ¬ (c.toNat : Int) = 59 from ne_nat c 59 (by omega) h59), if_pos (by omega), beq_eq_false_iff_ne.2 h58, beq_eq_false_iff_ne.2 h59, Bool.false_or, Bool.false_or]
    congr 1
    by_cases h44 : c = 44
    · rw [h44]; rfl
    · rw [beq_eq_false_iff_ne.2 h44, beq_eq_false_iff_ne.2 (show ¬ (c.toNat : Int) = 44 from ne_nat c 44 (by omega) h44)]
  · rw [if_pos rfl, if_pos (by omega), Bool.true_or]
def endP (A : List UInt8) (f : Bool) : List UInt8 := if f = true then [34] ++ A ++ [34] else A
theorem ba_sizeW (l : List UInt8) : (⟨l.toArray⟩ : ByteArray).size = l.length := by show l.toArray.size = _; rw [List.size_toArray]
theorem ba_appW (a b : List UInt8) : (⟨a.toArray⟩ : ByteArray) ++ ⟨b.toArray⟩ = ⟨(a ++ b).toArray⟩ := by
  apply ByteArray.ext
  rw [ByteArray.data_append]
  simp
theorem pa_end (k : Nat) (s : ByteArray) (A : List UInt8) (f : Bool) (hA : A.length ≤ 1000000) : trystref08_Param.l0 (k + 1) s (wI A) f (s.size : Int) ((s.size : Nat) : Int) = some (⟨(endP A f).toArray⟩, 0) := by
  have e : (⟨#[34]⟩ : ByteArray) = ⟨[(34 : UInt8)].toArray⟩ := rfl
  simp only [trystref08_Param.l0, str_wI, e, ba_appW, ba_sizeW]
  rw [if_neg (by omega)]
  unfold endP
  cases f
  · rw [if_neg (by simp), if_neg (by simp)]
  · rw [if_pos rfl, if_pos (by omega), if_pos (by simp; omega), if_pos rfl]
theorem pa_ev (s : ByteArray) (hs : s.size ≤ 100000) : ∀ (n i : Nat) (A : List UInt8) (f : Bool), s.size - i ≤ n → i ≤ s.size → A.length ≤ 2 * i →
    Ev (fun k => trystref08_Param.l0 k s (wI A) f (s.size : Int) (i : Int)) (⟨(endP (A ++ parT (s.data.toList.drop i)) (f || (s.data.toList.drop i).any quoB)).toArray⟩, 0)
  | 0, i, A, f, hn, hi, hA => by
    obtain rfl : i = s.size := by omega
    rw [List.drop_of_length_le (by simp), show parT [] = [] from rfl, List.append_nil, List.any_nil, Bool.or_false]
    exact Ev.step (f := fun _ => some (⟨(endP A f).toArray⟩, 0)) (fun k => pa_end k s A f (by omega)) (Ev.now _)
  | n + 1, i, A, f, hn, hi, hA => by
    by_cases hlt : i < s.size
    case neg => exact pa_ev s hs n i A f (by omega) hi hA
    have hb := bt_nat s i
    rw [drop_at s i hlt, parT_cons, List.any_cons]
    generalize s.data.toList.getD i 0 = c at *
    have hle := parB_le c
    refine Ev.step (fun k => pa_step k s A f i hlt hs (by omega) c hb) ?_
    have ih := pa_ev s hs n (i + 1) (A ++ parB c) (f || quoB c) (by omega) (by omega) (by rw [List.length_append]; omega)
    rw [List.append_assoc, Bool.or_assoc] at ih
    exact ih
theorem ref_param (s : ByteArray) (hs : s.size ≤ 100000) : Ev (fun k => trystref08_Param.f k s) (paramW s) := by
  refine Ev.bind (refClean s true (by omega)) ?_
  unfold paramW
  by_cases h0 : cleanR true s.data.toList = 0
  · simp only [if_pos h0]
    have := pa_ev s hs s.size 0 [] false (by omega) (by omega) (by simp)
    rw [List.drop_zero, List.nil_append, Bool.false_or] at this
    exact this
  · simp only [if_neg h0]; exact Ev.now _
theorem ba_backB (s : ByteArray) : (⟨s.data.toList.toArray⟩ : ByteArray) = s := by cases s; simp
end Go.Proofs.YtdojmdbaiddkgaaGreatDoor.Pure
end
section
set_option linter.unusedVariables false
set_option linter.unusedSimpArgs false
set_option linter.unusedSectionVars false
namespace Go.Proofs.YtdojmdbaiddkgaaGreatDoor.Pure
open Go.RowKit Go.Proofs.YtdojmdbaiddkgaaGreatDoor.Print Go.Proofs.YtdojmdbaiddkgaaGreatDoorW.PrintWords Go.Proofs.YtdojmdbaiddkgaaGreatDoorW.PrintLast
def fewV : List ByteArray → Nat
  | [] => 0
  | x :: t => x.size + 1 + fewV t
def fewP : List RP → Nat
  | [] => 0
  | p :: t => p.f0.size + 1 + fewV p.f1 + fewP t
theorem wrapN (s c : Nat) (h : s + c ≤ 4611686018427387904) : wrap64 ((s : Int) + (c : Int)) = ((s + c : Nat) : Int) := by unfold wrap64; omega
theorem wrap2 (s c : Nat) (h : s + c + 1 ≤ 4611686018427387904) : wrap64 (wrap64 ((s : Int) + (c : Int)) + 1) = ((s + c + 1 : Nat) : Int) := by
  rw [wrapN s c (by omega)]; exact wrapN (s + c) 1 h
theorem few1_sum (nm v : ByteArray) (l : List RP) (i : Nat) (hi : i < l.length) (hl : l.length ≤ 60) (hv : l[i].f1.length ≤ 60)
    (next : ∀ s : Nat, s + fewP (l.drop (i + 1)) ≤ 4611686018427387904 → Ev (fun k => trystlaw10_Few.l0 k (s : Int) (l.length : Int) ((i + 1 : Nat) : Int) nm l v) (decide (s + fewP (l.drop (i + 1)) ≤ 5000))) :
    ∀ (d j s : Nat), j + d = l[i].f1.length → s + fewV (l[i].f1.drop j) + fewP (l.drop (i + 1)) ≤ 4611686018427387904 →
      Ev (fun k => trystlaw10_Few.l1 k (s : Int) (i : Int) (l.length : Int) (i : Int) (l[i].f1.length : Int) (j : Int) nm l v) (decide (s + fewV (l[i].f1.drop j) + fewP (l.drop (i + 1)) ≤ 5000)) := by
  intro d
  induction d with
  | zero =>
    intro j s hj hb
    rw [List.drop_eq_nil_of_le (by omega), fewV, Nat.add_zero] at hb ⊢
    by_cases h5 : s ≤ 5000
    · exact Ev.step (fun k => by simp only [trystlaw10_Few.l1]; rw [if_neg (by omega), if_neg (by omega), wrapS i _ hi (by omega)]) (next s hb)
    · rw [decide_eq_false (by omega)]
      exact Ev.step (f := fun _ => some false) (fun k => by simp only [trystlaw10_Few.l1]; rw [if_neg (by omega), if_pos (by omega)]) (Ev.now _)
  | succ d ih =>
    intro j s hj hb
    have hjl : j < l[i].f1.length := by omega
    rw [List.drop_eq_getElem_cons hjl, fewV] at hb ⊢
    have := ih (j + 1) (s + l[i].f1[j].size + 1) (by omega) (by omega)
    rw [show s + (l[i].f1[j].size + 1 + fewV (l[i].f1.drop (j + 1))) + fewP (l.drop (i + 1)) = s + l[i].f1[j].size + 1 + fewV (l[i].f1.drop (j + 1)) + fewP (l.drop (i + 1)) by omega]
    exact Ev.step (fun k => by simp only [trystlaw10_Few.l1]; rw [if_pos (by omega), if_pos (by omega), if_pos (by omega), if_pos (by omega), rdR l i hi, if_pos (by omega), wrapS j _ hjl (by omega), rdS _ j hjl, wrap2 s _ (by omega)]) this
theorem few_sum (nm v : ByteArray) (l : List RP) (hl : l.length ≤ 60) (hv : ∀ x ∈ l, x.f1.length ≤ 60) :
    ∀ (d i s : Nat), i + d = l.length → s + fewP (l.drop i) ≤ 4611686018427387904 → Ev (fun k => trystlaw10_Few.l0 k (s : Int) (l.length : Int) (i : Int) nm l v) (decide (s + fewP (l.drop i) ≤ 5000)) := by
  intro d
  induction d with
  | zero =>
    intro i s hi hb
    rw [List.drop_eq_nil_of_le (by omega), fewP, Nat.add_zero]
    exact Ev.step (f := fun _ => some (decide (s ≤ 5000))) (fun k => by simp only [trystlaw10_Few.l0]; rw [if_neg (by omega)]; exact congrArg some (decide_eq_decide.2 (by omega))) (Ev.now _)
  | succ d ih =>
    intro i s hi hb
    have hil : i < l.length := by omega
    rw [List.drop_eq_getElem_cons hil, fewP] at hb ⊢
    have := few1_sum nm v l i hil hl (hv _ (List.getElem_mem hil)) (fun s h => ih (i + 1) s (by omega) h) l[i].f1.length 0 (s + l[i].f0.size + 1) (by omega) (by rw [List.drop_zero]; omega)
    rw [List.drop_zero] at this
    rw [show s + (l[i].f0.size + 1 + fewV l[i].f1 + fewP (l.drop (i + 1))) = s + l[i].f0.size + 1 + fewV l[i].f1 + fewP (l.drop (i + 1)) by omega]
    exact Ev.step (fun k => by simp only [trystlaw10_Few.l0]; rw [if_pos (by omega), if_pos (by omega), if_pos (by omega), rdR l i hil, wrap2 s _ (by omega)]; rfl) this
theorem fewV_le (B : Nat) : ∀ l : List ByteArray, (∀ x ∈ l, x.size ≤ B) → fewV l ≤ l.length * (B + 1)
  | [], _ => by simp [fewV]
  | x :: t, h => by
    have h1 := h x List.mem_cons_self
    have h2 := fewV_le B t (fun y hy => h y (List.mem_cons_of_mem _ hy))
    rw [fewV, List.length_cons, Nat.add_mul]; omega
theorem fewP_le : ∀ l : List RP, (∀ p ∈ l, ParB' (toP p) ∧ p.f1.length ≤ 60) → fewP l ≤ l.length * 9000000000000000
  | [], _ => by simp [fewP]
  | p :: t, h => by
    have h1 := h p List.mem_cons_self
    have h2 := fewP_le t (fun y hy => h y (List.mem_cons_of_mem _ hy))
    have h3 := fewV_le 140737488351232 p.f1 h1.1.2
    have h4 : p.f0.size ≤ 140737488351232 := h1.1.1
    have h5 : p.f1.length * (140737488351232 + 1) ≤ 60 * (140737488351232 + 1) := Nat.mul_le_mul_right _ h1.2
    rw [fewP, List.length_cons, Nat.add_mul]; omega
theorem okPs_all : ∀ (l seen : List LP), okPs seen l = true → ∀ p ∈ l, parR p.f0 p.f1 = true
  | [], _, _, p, hp => by simp at hp
  | q :: t, seen, h, p, hp => by
    rw [okPs, Bool.and_eq_true, Bool.and_eq_true] at h
    rcases List.mem_cons.1 hp with rfl | hp
    · exact h.1
    · exact okPs_all t _ h.2.2 p hp
theorem parR_of {nm : ByteArray} {l : List ByteArray} (h : parR nm l = true) : nameR nm = true ∧ 1 ≤ l.length ∧ l.length ≤ 60 ∧ ∀ x ∈ l, cleanR true x.data.toList = 0 := by
  unfold parR at h
  rw [Bool.and_eq_true, Bool.and_eq_true, Bool.and_eq_true] at h
  exact ⟨h.1, of_decide_eq_true h.2.1, of_decide_eq_true h.2.2.1, fun x hx => of_decide_eq_true (List.all_eq_true.1 h.2.2.2 x hx)⟩
theorem formR_of {nm : ByteArray} {l : List LP} {v : ByteArray} (h : formR nm l v = true) : nameR nm = true ∧ l.length ≤ 60 ∧ cleanR false v.data.toList = 0 ∧ okPs [] l = true := by
  unfold formR at h
  rw [Bool.and_eq_true, Bool.and_eq_true, Bool.and_eq_true] at h
  exact ⟨h.1, of_decide_eq_true h.2.1, of_decide_eq_true h.2.2.1, h.2.2.2⟩
theorem parT_le : ∀ l : List UInt8, (parT l).length ≤ 2 * l.length
  | [] => by simp [parT]
  | c :: t => by
    have := parT_le t
    rw [parT_cons, List.length_append, List.length_cons]
    have : (parB c).length ≤ 2 := by unfold parB; split <;> (try split) <;> (try split) <;> simp
    omega
theorem parL_le (l : List UInt8) : (parL l).length ≤ 2 * l.length + 2 := by
  have := parT_le l
  unfold parL; split
  · simp; omega
  · omega
theorem valsT_le : ∀ (l : List ByteArray) (b : UInt8), (valsT l b).length ≤ 3 * fewV l
  | [], b => by simp [valsT]
  | x :: t, b => by
    have h1 := valsT_le t 44
    have h2 := parL_le x.data.toList
    have e : x.data.toList.length = x.size := by simp
    rw [valsT, fewV, List.length_append, List.length_cons]; omega
theorem parsT_le : ∀ l : List RP, (parsT (l.map toP)).length ≤ 3 * fewP l
  | [] => by simp [parsT]
  | p :: t => by
    have h1 := parsT_le t
    have h2 := valsT_le p.f1 61
    have e : p.f0.data.toList.length = p.f0.size := by simp
    rw [List.map_cons, parsT, fewP]
    show (59 :: p.f0.data.toList ++ valsT p.f1 61 ++ parsT (t.map toP)).length ≤ _
    rw [List.length_append, List.length_append, List.length_cons]; omega
theorem lineT_le (nm v : ByteArray) (l : List RP) : (lineT nm (l.map toP) v).length ≤ 3 * (nm.size + v.size + fewP l) + 1 := by
  have h1 := parsT_le l
  have e : nm.data.toList.length = nm.size := by simp
  have e2 : v.data.toList.length = v.size := by simp
  unfold lineT
  rw [List.length_append, List.length_append, List.length_cons]; omega
theorem clean_evS : ∀ l : List ByteArray, (∀ x ∈ l, x.size ≤ 140737488351232 ∧ cleanR true x.data.toList = 0) → ∃ K, ∀ k, K ≤ k → ∀ x ∈ l, escape_Clean.f k x true = some 0
  | [], _ => ⟨0, fun _ _ x hx => by simp at hx⟩
  | x :: t, h => by
    obtain ⟨K, hK⟩ := clean_evS t (fun y hy => h y (List.mem_cons_of_mem _ hy))
    have hx := h x List.mem_cons_self
    obtain ⟨K2, hK2⟩ := escClean x true hx.1
    rw [hx.2] at hK2
    refine ⟨max K K2, fun k hk y hy => ?_⟩
    rcases List.mem_cons.1 hy with rfl | hy
    · exact hK2 k (by omega)
    · exact hK k (by omega) y hy
theorem clean_evP : ∀ l : List LP, (∀ p ∈ l, ∀ x ∈ p.f1, x.size ≤ 140737488351232 ∧ cleanR true x.data.toList = 0) → ∃ K, ∀ k, K ≤ k → cleanAll k l = true
  | [], _ => ⟨0, fun _ _ => rfl⟩
  | p :: t, h => by
    obtain ⟨K, hK⟩ := clean_evP t (fun y hy => h y (List.mem_cons_of_mem _ hy))
    obtain ⟨K2, hK2⟩ := clean_evS p.f1 (h p List.mem_cons_self)
    refine ⟨max K K2, fun k hk => ?_⟩
    have h1 := hK k (by omega)
    unfold cleanAll at h1 ⊢
    rw [List.all_cons, h1, Bool.and_true]
    exact List.all_eq_true.2 fun x hx => decide_eq_true (hK2 k (by omega) x hx)
def printR (nm : ByteArray) (l : List LP) (v : ByteArray) : ByteArray × Int := if formR nm l v = true then lineR nm l v else (⟨#[]⟩, 1)
theorem printL (nm v : ByteArray) (l : List LP) (hn : nm.size ≤ 140737488351232) (hv : v.size ≤ 140737488351232) (hs : ∀ p ∈ l, ParB' p) (hlen : formR nm l v = true → (lineT nm l v).length ≤ 1000000000) : Ev (fun k => line_Print.f k nm l v) (printR nm l v) := by
  refine Ev.bind (formL nm v l hn hv hs) ?_
  unfold printR
  cases hf : formR nm l v with
  | false => exact Ev.congr (f := fun _ => some (⟨#[]⟩, 1)) (fun k => by rw [if_neg (by simp)]) (by rw [if_neg (by simp)]; exact Ev.now _)
  | true =>
    have h1 := hlen hf
    have h2 := formR_of hf
    obtain ⟨K, hK⟩ := clean_evP l (fun p hp x hx => ⟨(hs p hp).2 x hx, (parR_of (okPs_all l [] h2.2.2.2 p hp)).2.2.2 x hx⟩)
    rw [if_pos rfl]
    exact ⟨K, fun k hk => by show (if true = true then _ else _) = _; rw [if_pos rfl, if_pos ⟨hK k hk, h1⟩]⟩
theorem ba_put (A : List UInt8) (c : UInt8) (x : ByteArray) : ((⟨A.toArray⟩ : ByteArray) ++ (⟨#[c]⟩ : ByteArray)) ++ x = ⟨(A ++ c :: x.data.toList).toArray⟩ := by
  rw [← ba_backB x, show (⟨#[c]⟩ : ByteArray) = ⟨[c].toArray⟩ from rfl, ba_appW, ba_appW]
  simp
theorem refP1_ev (nm v : ByteArray) (l : List RP) (i : Nat) (hi : i < l.length) (hl : l.length ≤ 60) (hv : l[i].f1.length ≤ 60) (hc : ∀ x ∈ l[i].f1, x.size ≤ 100000 ∧ cleanR true x.data.toList = 0) {R : ByteArray × Int} (F : List UInt8) (hF : F.length ≤ 1000000000)
    (next : Ev (fun k => trystref08_Print.l0 k ⟨F.toArray⟩ (l.length : Int) ((i + 1 : Nat) : Int) nm l v) R) :
    ∀ (d j : Nat) (A : List UInt8), j + d = l[i].f1.length → A ++ valsT (l[i].f1.drop j) (if j = 0 then 61 else 44) = F → Ev (fun k => trystref08_Print.l1 k ⟨A.toArray⟩ (i : Int) (l.length : Int) (i : Int) (l[i].f1.length : Int) (j : Int) nm l v) R := by
  intro d
  induction d with
  | zero =>
    intro j A hj hA
    rw [List.drop_eq_nil_of_le (by omega), valsT, List.append_nil] at hA
    subst hA
    exact Ev.step (fun k => by simp only [trystref08_Print.l1]; rw [if_neg (by omega), wrapS i _ hi (by omega)]) next
  | succ d ih =>
    intro j A hj hA
    have hjl : j < l[i].f1.length := by omega
    have hx := hc _ (List.getElem_mem hjl)
    rw [List.drop_eq_getElem_cons hjl, valsT] at hA
    have hA2 : A ++ (if j = 0 then (61 : UInt8) else 44) :: parL l[i].f1[j].data.toList ++ valsT (l[i].f1.drop (j + 1)) 44 = F := by rw [← hA]; simp
    have hlen := congrArg List.length hA2
    rw [List.length_append, List.length_append, List.length_cons] at hlen
    have hs1 : (⟨A.toArray⟩ : ByteArray).size = A.length := ba_sizeW A
    have hpw : (parW l[i].f1[j]).size = (parL l[i].f1[j].data.toList).length := by simp [parW, ByteArray.size]
    have hpd : (parW l[i].f1[j]).data.toList = parL l[i].f1[j].data.toList := by simp [parW]
    have := ih (j + 1) (A ++ (if j = 0 then (61 : UInt8) else 44) :: parL l[i].f1[j].data.toList) (by omega) (by rw [if_neg (show ¬ j + 1 = 0 by omega)]; exact hA2)
    refine Ev.step (f := fun k => (trystref08_Param.f k l[i].f1[j]).bind fun bt => if (j : Int) = 0 then (if (⟨A.toArray⟩ : ByteArray).size + 1 ≤ 9223372036854775807 then (if ((⟨A.toArray⟩ : ByteArray) ++ (⟨#[61]⟩ : ByteArray)).size + bt.1.size ≤ 9223372036854775807 then trystref08_Print.l1 k (((⟨A.toArray⟩ : ByteArray) ++ (⟨#[61]⟩ : ByteArray)) ++ bt.1) (i : Int) (l.length : Int) (i : Int) (l[i].f1.length : Int) ((j + 1 : Nat) : Int) nm l v else none) else none) else (if (⟨A.toArray⟩ : ByteArray).size + 1 ≤ 9223372036854775807 then (if ((⟨A.toArray⟩ : ByteArray) ++ (⟨#[44]⟩ : ByteArray)).size + bt.1.size ≤ 9223372036854775807 then trystref08_Print.l1 k (((⟨A.toArray⟩ : ByteArray) ++ (⟨#[44]⟩ : ByteArray)) ++ bt.1) (i : Int) (l.length : Int) (i : Int) (l[i].f1.length : Int) ((j + 1 : Nat) : Int) nm l v else none) else none)) (fun k => by
      simp only [trystref08_Print.l1]
      rw [if_pos (by omega), if_pos (by omega), if_pos (by omega), if_pos (by omega), rdR l i hi, if_pos (by omega), rdS _ j hjl, wrapS j _ hjl (by omega)]) ?_
    refine Ev.bind (ref_param _ hx.1) ?_
    unfold paramW
    rw [if_pos hx.2]
    by_cases h0 : j = 0
    · refine Ev.congr (fun k => ?_) this
      rw [if_pos (by omega), if_pos (by omega), if_pos (by rw [ByteArray.size_append, hs1, hpw]; show A.length + 1 + _ ≤ _; omega), ba_put, hpd, if_pos h0]
    · refine Ev.congr (fun k => ?_) this
      rw [if_neg (by omega), if_pos (by omega), if_pos (by rw [ByteArray.size_append, hs1, hpw]; show A.length + 1 + _ ≤ _; omega), ba_put, hpd, if_neg h0]
theorem refP_ev (nm v : ByteArray) (l : List RP) (hl : l.length ≤ 60) (hv : ∀ p ∈ l, p.f1.length ≤ 60 ∧ ∀ x ∈ p.f1, x.size ≤ 100000 ∧ cleanR true x.data.toList = 0) (F : List UInt8) (hF : F.length ≤ 1000000000) :
    ∀ (d i : Nat) (A : List UInt8), i + d = l.length → A ++ parsT ((l.drop i).map toP) ++ 58 :: v.data.toList = F → Ev (fun k => trystref08_Print.l0 k ⟨A.toArray⟩ (l.length : Int) (i : Int) nm l v) (if 2000 < F.length then (⟨#[]⟩, 4) else (⟨F.toArray⟩, 0)) := by
  intro d
  induction d with
  | zero =>
    intro i A hi hA
    rw [List.drop_eq_nil_of_le (by omega), List.map_nil, parsT, List.append_nil] at hA
    have hlen := congrArg List.length hA
    rw [List.length_append, List.length_cons] at hlen
    have e2 : v.data.toList.length = v.size := by simp
    have hs1 : (⟨A.toArray⟩ : ByteArray).size = A.length := ba_sizeW A
    refine Ev.step (f := fun _ => some (if 2000 < F.length then (⟨#[]⟩, 4) else (⟨F.toArray⟩, 0))) (fun k => ?_) (Ev.now _)
    simp only [trystref08_Print.l0]
    rw [if_neg (by omega), if_pos (by omega), if_pos (by rw [ByteArray.size_append, hs1]; show A.length + 1 + _ ≤ _; omega), ba_put, hA]
    have hs2 : (⟨F.toArray⟩ : ByteArray).size = F.length := ba_sizeW F
    by_cases h : 2000 < F.length
    · rw [if_pos (by omega), if_pos h]
    · rw [if_neg (by omega), if_neg h]
  | succ d ih =>
    intro i A hi hA
    have hil : i < l.length := by omega
    have hp := hv _ (List.getElem_mem hil)
    rw [List.drop_eq_getElem_cons hil, List.map_cons, parsT] at hA
    have hA2 : (A ++ 59 :: l[i].f0.data.toList) ++ valsT l[i].f1 61 ++ parsT ((l.drop (i + 1)).map toP) ++ 58 :: v.data.toList = F := by rw [← hA]; simp [toP]
    have hlen := congrArg List.length hA2
    simp only [List.length_append, List.length_cons] at hlen
    have e2 : l[i].f0.data.toList.length = l[i].f0.size := by simp
    have hs1 : (⟨A.toArray⟩ : ByteArray).size = A.length := ba_sizeW A
    have h1 := ih (i + 1) (A ++ 59 :: l[i].f0.data.toList ++ valsT l[i].f1 61) (by omega) hA2
    have h2 := refP1_ev nm v l i hil hl hp.1 hp.2 (A ++ 59 :: l[i].f0.data.toList ++ valsT l[i].f1 61) (by simp only [List.length_append, List.length_cons]; omega) h1 l[i].f1.length 0 (A ++ 59 :: l[i].f0.data.toList) (by omega) (by rw [List.drop_zero]; rfl)
    refine Ev.step (fun k => ?_) h2
    simp only [trystref08_Print.l0]
    rw [if_pos (by omega), if_pos (by omega), if_pos (by omega), if_pos (by omega), rdR l i hil, if_pos (by rw [ByteArray.size_append, hs1]; show A.length + 1 + _ ≤ _; omega), ba_put]
    rfl
theorem printRef (nm v : ByteArray) (l : List RP) (hn : nm.size ≤ 140737488351232) (hv : v.size ≤ 140737488351232) (hs : ∀ p ∈ l, ParB' (toP p)) (hlen : formR nm (l.map toP) v = true → (lineT nm (l.map toP) v).length ≤ 1000000000 ∧ ∀ p ∈ l, ∀ x ∈ p.f1, x.size ≤ 100000) : Ev (fun k => trystref08_Print.f k nm l v) (printR nm (l.map toP) v) := by
  refine Ev.bind (refF nm v l hn hv hs) ?_
  unfold printR
  cases hf : formR nm (l.map toP) v with
  | false => exact Ev.congr (f := fun _ => some (⟨#[]⟩, 1)) (fun k => by rw [if_neg (by simp)]) (by rw [if_neg (by simp)]; exact Ev.now _)
  | true =>
    have h1 := hlen hf
    have h2 := formR_of hf
    rw [if_pos rfl]
    refine Ev.congr (f := fun k => trystref08_Print.l0 k nm (l.length : Int) ((0 : Nat) : Int) nm l v) (fun k => by rw [if_pos rfl]; rfl) ?_
    have h3 := refP_ev nm v l (by rw [← List.length_map (f := toP)]; exact h2.2.1) (fun p hp => by
      have := parR_of (okPs_all _ [] h2.2.2.2 (toP p) (List.mem_map_of_mem hp))
      exact ⟨this.2.2.1, fun x hx => ⟨h1.2 p hp x hx, this.2.2.2 x hx⟩⟩) (lineT nm (l.map toP) v) h1.1 l.length 0 nm.data.toList (by omega) (by rw [List.drop_zero]; rfl)
    rw [ba_backB] at h3
    exact h3
theorem few_x : ∀ (l : List ByteArray), ∀ x ∈ l, x.size ≤ fewV l
  | y :: t, x, hx => by
    rw [fewV]
    rcases List.mem_cons.1 hx with rfl | hx
    · omega
    · have := few_x t x hx; omega
theorem few_p : ∀ (l : List RP), ∀ p ∈ l, fewV p.f1 ≤ fewP l
  | y :: t, p, hp => by
    rw [fewP]
    rcases List.mem_cons.1 hp with rfl | hp
    · omega
    · have := few_p t p hp; omega
end Go.Proofs.YtdojmdbaiddkgaaGreatDoor.Pure
end
section
set_option linter.unusedVariables false
set_option linter.unusedSimpArgs false
set_option linter.unusedSectionVars false
namespace Go.Proofs.YtdojmdbaiddkgaaGreatDoor.Pure
open Go.RowKit Go.Proofs.YtdojmdbaiddkgaaGreatDoor.Print Go.Proofs.YtdojmdbaiddkgaaGreatDoorW.PrintWords Go.Proofs.YtdojmdbaiddkgaaGreatDoorW.PrintLast
theorem rdAt (X : List ByteArray) (i : Nat) (h : i < X.length) : rdOf ByteArray.empty X (i : Int) = X[i] := by
  unfold rdOf
  rw [Int.toNat_natCast, List.getD_eq_getElem?_getD, List.getElem?_eq_getElem h]; rfl
theorem is_natF (c : UInt8) (n : Nat) (hn : n < 256) (h : c = n.toUInt8) : (c.toNat : Int) = (n : Int) := by subst h; simp; omega
theorem nil_ofF (s : ByteArray) (h : s.size = 0) : s.data.toList = [] := by
  apply List.length_eq_zero_iff.1; rw [Array.length_toList]; exact h
def nlB (c : UInt8) : Bool := c == 13 || c == 10
theorem contains_nl (l : List UInt8) : Lib.containsAny l [13, 10] = l.any nlB := by
  unfold Lib.containsAny
  induction l with
  | nil => rfl
  | cons b t ih =>
    have hge := Lib.indexAny_ge [13, 10] t
    have hq : ([13, 10] : List UInt8).contains b = nlB b := by
      simp [nlB, List.contains_cons, Bool.or_assoc]; rfl
    rw [List.any_cons, ← ih, Lib.indexAny, hq]
    cases hb : nlB b
    · simp only [Bool.false_eq_true, if_false, Bool.false_or]
      by_cases h1 : Lib.indexAny t [13, 10] = -1
      · rw [h1]; rfl
      · have : (Lib.indexAny t [13, 10] == -1) = false := beq_eq_false_iff_ne.2 h1
        rw [this]
        have h0 : 0 ≤ Lib.indexAny t [13, 10] := by omega
        simp [h0]; omega
    · simp
theorem extT (s : ByteArray) (p q : Nat) : (s.extract p (p + q)).data.toList = (s.data.toList.drop p).take q := by
  rw [ByteArray.data_extract, Array.toList_extract, List.extract_eq_take_drop]
  congr 1; omega
end Go.Proofs.YtdojmdbaiddkgaaGreatDoor.Pure
end
section
namespace Go.Proofs.YtdojmdbaiddkgaaGreatDoor.Print
open Go.RowKit Go.Proofs.YtdojmdbaiddkgaaGreatDoorW.PrintWords Go.Proofs.YtdojmdbaiddkgaaGreatDoorW.PrintLast
attribute [local go_sem] maxI
set_option linter.unusedVariables false
set_option linter.unusedSimpArgs false
mutual
def trystref08_Lines.l0 : Nat → List ByteArray → Int → Int → ByteArray → List (S53) → List (S25) → Option (List ByteArray × Int)
 | 0, _, _, _, _, _, _ => none
 | k + 1, x4, x17, x18, x318000, x318001, x318002 => if x18 < x17 then (if 0 ≤ x18 then (if x18 < (x318001.length : Int) then ((trystref08_Print.f k ((rd_T53 x318001 x18).f0) ((rd_T53 x318001 x18).f1) ((rd_T53 x318001 x18).f2)).bind fun bt322 => (if bt322.2 = 0 then (if x4.length < 8796093022208 then (trystref08_Lines.l0 k (x4 ++ [bt322.1]) x17 (wrap64 (x18 + 1)) x318000 x318001 x318002) else (none)) else (some (([] : List ByteArray), bt322.2)))) else (none)) else (none)) else (trystref08_Lines.l1 k x4 (x318002.length : Int) 0 x318000 x318001 x318002)
def trystref08_Lines.l1 : Nat → List ByteArray → Int → Int → ByteArray → List (S53) → List (S25) → Option (List ByteArray × Int)
 | 0, _, _, _, _, _, _ => none
 | k + 1, x4, x40, x41, x318000, x318001, x318002 => if x41 < x40 then (if 0 ≤ x41 then (if x41 < (x318002.length : Int) then ((trystref08_Lines.f k ((rd_T25 x318002 x41).f0) ((rd_T25 x318002 x41).f1) ((rd_T25 x318002 x41).f2)).bind fun bt328 => (if bt328.2 = 0 then (if x4.length + bt328.1.length < 8796093022208 then (trystref08_Lines.l1 k (x4 ++ bt328.1) x40 (wrap64 (x41 + 1)) x318000 x318001 x318002) else (none)) else (some (([] : List ByteArray), bt328.2)))) else (none)) else (none)) else (if 4 + x318000.size ≤ 9223372036854775807 then (if x4.length < 8796093022208 then (some ((x4 ++ [(⟨#[69, 78, 68, 58]⟩ : ByteArray) ++ x318000]), 0)) else (none)) else (none))
def trystref08_Lines.f : Nat → ByteArray → List (S53) → List (S25) → Option (List ByteArray × Int)
 | 0, _, _, _ => none
 | k + 1, a0_0, l0_1, l0_2 => if 6 + a0_0.size ≤ 9223372036854775807 then (trystref08_Lines.l0 k (([(⟨#[66, 69, 71, 73, 78, 58]⟩ : ByteArray) ++ a0_0] : List ByteArray)) (l0_1.length : Int) 0 a0_0 l0_1 l0_2) else (none)
end
set_option maxHeartbeats 8000000 in
set_option maxRecDepth 100000 in
theorem trystref08_Lines.calls (k : Nat) : ∀ (a0_0 : ByteArray) (A0_1 : Option Addr) (c0_1 : Nat) (l0_1 : List (S53)) (A0_2 : Option Addr) (c0_2 : Nat) (l0_2 : List (S25)) (r1 : List ByteArray) (r2 : Int) (w : World) (hG : GG w) (hr0_1 : Kd.C k53 w A0_1 l0_1.length l0_1) (hc0_1 : l0_1.length ≤ c0_1) (hr0_2 : Kd.C k25 w A0_2 l0_2.length l0_2) (hc0_2 : l0_2.length ≤ c0_2) (h : trystref08_Lines.f k a0_0 l0_1 l0_2 = some (r1, r2)),
  Calls Tryz.prog 23 #[.agg #[.string a0_0, .slice A0_1 l0_1.length c0_1, .slice A0_2 l0_2.length c0_2]] w fun e w' => ∃ v0_ : Value, e = .returned (.tuple #[v0_, .int .i64 r2]) ∧ Kd.R Kd.string 9 w' w.heap.size (fun _ => True) v0_ r1 ∧ Below w.heap.size w w' := by
 induction k using Nat.strongRecOn with
 | _ k ih =>
 intro a0_0 A0_1 c0_1 l0_1 A0_2 c0_2 l0_2 r1 r2 w hG hr0_1 hc0_1 hr0_2 hc0_2 h
 cases k with
 | zero => exact absurd h (by simp [trystref08_Lines.f])
 | succ k =>
 simp only [trystref08_Lines.f] at h; have hu25 := Tryz.underlying25; have hu53 := Tryz.underlying53; have HR0_1 := Aside0.mk hr0_1; have HC0_1 := Aside0.mk hc0_1; clear hr0_1 hc0_1; have HR0_2 := Aside0.mk hr0_2; have HC0_2 := Aside0.mk hc0_2; clear hr0_2 hc0_2; have HB := Aside0.mk (Below.refl w.heap.size w); have H : (if 6 + a0_0.size ≤ 9223372036854775807 then (trystref08_Lines.l0 k (([(⟨#[66, 69, 71, 73, 78, 58]⟩ : ByteArray) ++ a0_0] : List ByteArray)) (l0_1.length : Int) 0 a0_0 l0_1 l0_2) else (none)) = some (r1, r2) := h; clear h; replace H := zI H; rcases H with ⟨c2, H⟩ | ⟨c2, H⟩
 ·have c2b0 := eq_true c2; have c2b1 : decide (6 + a0_0.size ≤ 9223372036854775807) = true := decide_eq_true c2
  try have c2b2 : (9223372036854775807 < 6 + a0_0.size) = False := eq_false (Nat.not_lt.2 c2)
  obtain ⟨y318, hy318⟩ : ∃ y_ : List ByteArray, y_ = (([(⟨#[66, 69, 71, 73, 78, 58]⟩ : ByteArray) ++ a0_0] : List ByteArray)) := ⟨_, rfl⟩; replace H : (trystref08_Lines.l0 k y318 (l0_1.length : Int) 0 a0_0 l0_1 l0_2) = some (r1, r2) := by first | (rw [hy318]; with_reducible exact H) | (have H2_ := (Option.bind_some _ _).symm.trans H; rw [hy318]; with_reducible exact H2_) | (have H2_ := (Option.bind_some _ _).symm.trans H; with_reducible exact H2_) | with_reducible exact H | (rw [hy318]; exact H) | exact H
  have Ny318 := Aside0.mk hy318; clear hy318; have H' := Aside0.mk H; clear H
  go_enter Tryz.func23, Tryz.ntmps23
  go_wp2_with (first | ((with_reducible refine gate_dst (N := 1) rfl ?_); refine zbox (N := 1) #[.string a0_0, .slice A0_1 l0_1.length c0_1, .slice A0_2 l0_2.length c0_2] 25 (fun gb317 hg w3 hbox hb => ?_); have n0_ := zw hb; have n1_ := Aside0.mk hbox; have n2_ := zg w hg; have n3_ := zg w hg; clear HB; have HB := n0_; have BK317 := n1_; have GW317 := n2_; have GE317 := n3_; clear n0_ n1_ n2_ n3_; clear hb hbox hg; have hcz4_0 := zc0 BK317; have hcz4_1 := zc1 BK317; have hcz4_2 := zc2 BK317; have hfz4_0 := zf BK317 0; have hfz4_1 := zf BK317 1; have hfz4_2 := zf BK317 2) | ((with_reducible refine gate_dst (N := 14) rfl ?_); refine Kd.R_lit Kd.string _ 9 ?hg (N := 14) ?hd (xs := ([(⟨#[66, 69, 71, 73, 78, 58]⟩ : ByteArray) ++ a0_0] : List ByteArray)) (inner := [.string ((⟨#[66, 69, 71, 73, 78, 58]⟩ : ByteArray) ++ a0_0)]) (ok := fun _ => True) (okp := fun _ => True) ?hr ?hp (fun _ hk => hk) trivial (Below.refl _ _) (Nat.le_refl _) (by simp) ?_; (case hd => rfl); (case hg => rfl); (case hr => first | (go_simp; done) | (go_simp; rfl)); (case hp => exact (Reps.one (show Kd.M Kd.string _ _ _ ((⟨#[66, 69, 71, 73, 78, 58]⟩ : ByteArray) ++ a0_0) [.string ((⟨#[66, 69, 71, 73, 78, 58]⟩ : ByteArray) ++ a0_0)] from rfl) (Reps.none _ _))); intro v319 w5 ho6 hb hg_ hnew_; clear hg_ hnew_; (first | rw [← Ny318.out] at ho6 | (simp only [Int.reduceToNat] at ho6; rw [← Ny318.out] at ho6)); replace HO320 := Aside0.mk (Kd.R_lower ho6 (below_size zB)); replace BK317 := zb BK317 hb; replace HB := zw hb; clear hb ho6; have hcz7_0 := zc0 BK317; have hcz7_1 := zc1 BK317; have hcz7_2 := zc2 BK317; have hfz7_0 := zf BK317 0; have hfz7_1 := zf BK317 1; have hfz7_2 := zf BK317 2))
  go_loopg [4, 18] k (fun kq v4 v18 w' => ∃ (x4_1 : List ByteArray) (x18_1 : Int), v18 = .int .i64 x18_1 ∧ Aside0 (trystref08_Lines.l0 kq x4_1 (l0_1.length : Int) x18_1 a0_0 l0_1 l0_2 = some (r1, r2)) ∧ Aside0 (kq ≤ k) ∧ Aside0 (Kd.R Kd.string 9 w' w.heap.size (fun _ => True) v4 x4_1) ∧ Aside0 (w'.heap[gb317]? = some (.cells #[.string a0_0, (.slice A0_1 l0_1.length c0_1), (.slice A0_2 l0_2.length c0_2)] 25 (0, 0))) ∧ Aside0 (Below w.heap.size w w'))
  case atStart => exact ⟨(y318), (0), zS, H', ⟨Nat.le_refl _⟩, ⟨Kd.R_below HO320.out zX⟩, ⟨blk_below BK317.out zX⟩, ⟨zB⟩⟩
  case round =>
   clear H'; clear c2 c2b0 c2b1 hcz4_0 hcz4_1 hcz4_2 hcz7_0 hcz7_1 hcz7_2 hfz4_0 hfz4_1 hfz4_2 hfz7_0 hfz7_1 hfz7_2; obtain ⟨x4_1, x18_1, rfl, HA, HK1, HO_4, BK317, HB⟩ := hrel
   cases gk with
   | zero => exact absurd HA.out (by simp [trystref08_Lines.l0])
   | succ k1 =>
    have H := HA.out; clear HA; simp only [trystref08_Lines.l0] at H; replace H := zId H; rcases H with ⟨-, c8b0, H⟩ | ⟨-, c8b0, H⟩
    ·replace H := zJd H; obtain ⟨-, c9b0, H⟩ := H; replace H := zJd H; obtain ⟨-, c10b0, H⟩ := H; replace H := Option.bind_eq_some_iff.mp H; obtain ⟨⟨t322, t323⟩, A110, H⟩ := H; replace H : (if t323 = 0 then (if x4_1.length < 8796093022208 then (trystref08_Lines.l0 k1 (x4_1 ++ [t322]) (l0_1.length : Int) (wrap64 (x18_1 + 1)) a0_0 l0_1 l0_2) else (none)) else (some (([] : List ByteArray), t323))) = some (r1, r2) := H; have A11 := Aside0.mk A110; clear A110; replace H := zIe H; rcases H with ⟨-, c12b0, c12b1, H⟩ | ⟨c12, c12b0, c12b1, H⟩
     ·replace H := zJ H; obtain ⟨c13, H⟩ := H; have LMc13 := Aside0.mk c13; clear c13; obtain ⟨y324, hy324⟩ : ∃ y_ : List ByteArray, y_ = (x4_1 ++ [t322]) := ⟨_, rfl⟩; replace H : (trystref08_Lines.l0 k1 y324 (l0_1.length : Int) (wrap64 (x18_1 + 1)) a0_0 l0_1 l0_2) = some (r1, r2) := by first | (rw [hy324]; with_reducible exact H) | (have H2_ := (Option.bind_some _ _).symm.trans H; rw [hy324]; with_reducible exact H2_) | (have H2_ := (Option.bind_some _ _).symm.trans H; with_reducible exact H2_) | with_reducible exact H | (rw [hy324]; exact H) | exact H
      have Ny324 := Aside0.mk hy324; clear hy324; have H' := Aside0.mk H; clear H; have hcz14_0 := zc0 BK317; have hcz14_1 := zc1 BK317; have hcz14_2 := zc2 BK317; have hfz14_0 := zf BK317 0; have hfz14_1 := zf BK317 1; have hfz14_2 := zf BK317 2; have p321 := zQ (0 ≤ (x18_1 : Int)); have q321 := zQ (x18_1 < (l0_1.length : Int)); obtain ⟨ad321, A321_1, c321_1, e321, hx321_0, hx321_1, hx321_2, hl321_1, hi321_1⟩ := at_T53 HR0_1.out x18_1 p321 q321
      cases e321
      replace hx321_0 := zx HB hx321_0; replace hx321_1 := zx HB hx321_1; replace hx321_2 := zx HB hx321_2; have HR321_1 := Aside0.mk hi321_1; have HC321_1 := Aside0.mk hl321_1; clear hi321_1 hl321_1; replace p321 := eq_true p321; replace q321 := eq_true q321
      go_wp2_with (first | ((with_reducible refine gate_callee (f := 42) rfl ?_); refine goesL_ (some 27) rfl rfl Tryz.func42 (by kernel_rfl) rfl #[.agg #[.string ((rd_T53 l0_1 x18_1).f0), .slice A321_1 ((rd_T53 l0_1 x18_1).f1).length c321_1, .string ((rd_T53 l0_1 x18_1).f2)]] rfl zA ?_; (with_reducible refine (trystref08_Print.calls k1 ((rd_T53 l0_1 x18_1).f0) _ _ ((rd_T53 l0_1 x18_1).f1) ((rd_T53 l0_1 x18_1).f2) t322 t323 _ zG ?side1 ?side2 A11.out).mono ?_); (case side1 => exact Kd.C_below (Kd.C_below HR321_1.out HB.out) zX); (case side2 => exact HC321_1.out); rintro e w15 ⟨rfl, hb⟩; refine ⟨_, rfl, ?_⟩; replace HO_4 := Aside0.mk (Kd.R_below (Kd.R_below HO_4.out zX) hb); replace BK317 := zb BK317 hb; replace HB := zw hb; (try clear hb)) | ((with_reducible refine gate_builtin (b := .append) (xs := #[.tmp 33, .tmp 35]) rfl ?_); at_builtin; refine Kd.R_append Kd.string (w0 := w) w.heap.size rfl (.tmp 33) (.tmp 35) 54 9 (.string ⟨#[]⟩) 16 rfl Tryz.underlying54 info9 rfl (by decide) (by omega) u4 x4_1 t322 [.string t322] (fun _ => True) (fun _ => False) rfl rfl ?aP (fun _ hk => hk.elim) ?aF ?aO ?aB ?aS ?aL ?_; (case aP => exact rfl); (case aB => exact zB); (case aF => exact (fun _ _ => trivial)); (case aO => exact (Kd.R_below HO_4.out zX)); (case aS => exact (below_size zB)); (case aL => have := LMc13.out; omega); intro v325 w16 ho hb hg hat; rw [← Ny324.out] at ho; have n0_ := Aside0.mk (blk_grown (g := gb317) (o := .cells #[.string a0_0, .slice (some ad321) l0_1.length c0_1, .slice A0_2 l0_2.length c0_2] 25 (0, 0)) (blk_below BK317.out zX) hg (Kd.R_ne HO_4.out BK317.out (by decide))); have n1_ := Aside0.mk (hb); have n2_ := Aside0.mk (ho); clear BK317; clear HB; clear HO_4; have BK317 := n0_; have HB := n1_; have HO326 := n2_; clear n0_ n1_ n2_; clear ho hb hg hat))
      go_roundg k1
      case measure => have := HK1.out; omega
      case rel => exact ⟨(y324), (wrap64 (x18_1 + 1)), zS, H', ⟨by have := HK1.out; omega⟩, ⟨Kd.R_below HO326.out zX⟩, ⟨blk_below BK317.out zX⟩, ⟨zB⟩⟩
     ·simp only [Option.some.injEq, Prod.mk.injEq] at H; obtain ⟨rfl, rfl⟩ := H; have hcz17_0 := zc0 BK317; have hcz17_1 := zc1 BK317; have hcz17_2 := zc2 BK317; have hfz17_0 := zf BK317 0; have hfz17_1 := zf BK317 1; have hfz17_2 := zf BK317 2; have p321 := zQ (0 ≤ (x18_1 : Int)); have q321 := zQ (x18_1 < (l0_1.length : Int)); obtain ⟨ad321, A321_1, c321_1, e321, hx321_0, hx321_1, hx321_2, hl321_1, hi321_1⟩ := at_T53 HR0_1.out x18_1 p321 q321
      cases e321
      replace hx321_0 := zx HB hx321_0; replace hx321_1 := zx HB hx321_1; replace hx321_2 := zx HB hx321_2; have HR321_1 := Aside0.mk hi321_1; have HC321_1 := Aside0.mk hl321_1; clear hi321_1 hl321_1; replace p321 := eq_true p321; replace q321 := eq_true q321
      go_wp2_with (first | ((with_reducible refine gate_callee (f := 42) rfl ?_); refine goesL_ (some 27) rfl rfl Tryz.func42 (by kernel_rfl) rfl #[.agg #[.string ((rd_T53 l0_1 x18_1).f0), .slice A321_1 ((rd_T53 l0_1 x18_1).f1).length c321_1, .string ((rd_T53 l0_1 x18_1).f2)]] rfl zA ?_; (with_reducible refine (trystref08_Print.calls k1 ((rd_T53 l0_1 x18_1).f0) _ _ ((rd_T53 l0_1 x18_1).f1) ((rd_T53 l0_1 x18_1).f2) t322 t323 _ zG ?side1 ?side2 A11.out).mono ?_); (case side1 => exact Kd.C_below (Kd.C_below HR321_1.out HB.out) zX); (case side2 => exact HC321_1.out); rintro e w18 ⟨rfl, hb⟩; refine ⟨_, rfl, ?_⟩; replace HO_4 := Aside0.mk (Kd.R_below (Kd.R_below HO_4.out zX) hb); replace BK317 := zb BK317 hb; replace HB := zw hb; (try clear hb)))
      go_ret2; exact ⟨_, zE, by first | exact Kd.R_nil _ _ _ _ _ | exact Kd.N_nil _ _ _ _ _ | exact Kd.V_nil _ _ _ _ _ | exact Kd.Q_nil _ _ _ _ _ | exact Kd.S_nil _ _ _ _ _, zB⟩
    ·have H' := Aside0.mk H; clear H; have hcz19_0 := zc0 BK317; have hcz19_1 := zc1 BK317; have hcz19_2 := zc2 BK317; have hfz19_0 := zf BK317 0; have hfz19_1 := zf BK317 1; have hfz19_2 := zf BK317 2; go_wp2
     go_loopg [4, 41] k1 (fun kq v4 v41 w' => ∃ (x4_2 : List ByteArray) (x41_2 : Int), v41 = .int .i64 x41_2 ∧ Aside0 (trystref08_Lines.l1 kq x4_2 (l0_2.length : Int) x41_2 a0_0 l0_1 l0_2 = some (r1, r2)) ∧ Aside0 (kq ≤ k1) ∧ Aside0 (Kd.R Kd.string 9 w' w.heap.size (fun _ => True) v4 x4_2) ∧ Aside0 (w'.heap[gb317]? = some (.cells #[.string a0_0, (.slice A0_1 l0_1.length c0_1), (.slice A0_2 l0_2.length c0_2)] 25 (0, 0))) ∧ Aside0 (Below w.heap.size w w'))
     case atStart => exact ⟨(x4_1), (0), zS, H', ⟨Nat.le_refl _⟩, ⟨Kd.R_below HO_4.out zX⟩, ⟨blk_below BK317.out zX⟩, ⟨zB⟩⟩
     case round =>
      clear H'; clear c8b0 hcz19_0 hcz19_1 hcz19_2 hfz19_0 hfz19_1 hfz19_2; obtain ⟨x4_2, x41_2, rfl, HA, HK2, HO_4, BK317, HB⟩ := hrel
      cases gk with
      | zero => exact absurd HA.out (by simp [trystref08_Lines.l1])
      | succ k2 =>
       have H := HA.out; clear HA; simp only [trystref08_Lines.l1] at H; replace H := zId H; rcases H with ⟨-, c20b0, H⟩ | ⟨-, c20b0, H⟩
       ·replace H := zJd H; obtain ⟨-, c21b0, H⟩ := H; replace H := zJd H; obtain ⟨-, c22b0, H⟩ := H; replace H := Option.bind_eq_some_iff.mp H; obtain ⟨⟨t328, t331⟩, A230, H⟩ := H; replace H : (if t331 = 0 then (if x4_2.length + t328.length < 8796093022208 then (trystref08_Lines.l1 k2 (x4_2 ++ t328) (l0_2.length : Int) (wrap64 (x41_2 + 1)) a0_0 l0_1 l0_2) else (none)) else (some (([] : List ByteArray), t331))) = some (r1, r2) := H; have A23 := Aside0.mk A230; clear A230; replace H := zIe H; rcases H with ⟨-, c24b0, c24b1, H⟩ | ⟨c24, c24b0, c24b1, H⟩
        ·replace H := zJ H; obtain ⟨c25, H⟩ := H; have LMc25 := Aside0.mk c25; clear c25; obtain ⟨y332, hy332⟩ : ∃ y_ : List ByteArray, y_ = (x4_2 ++ t328) := ⟨_, rfl⟩; replace H : (trystref08_Lines.l1 k2 y332 (l0_2.length : Int) (wrap64 (x41_2 + 1)) a0_0 l0_1 l0_2) = some (r1, r2) := by first | (rw [hy332]; with_reducible exact H) | (have H2_ := (Option.bind_some _ _).symm.trans H; rw [hy332]; with_reducible exact H2_) | (have H2_ := (Option.bind_some _ _).symm.trans H; with_reducible exact H2_) | with_reducible exact H | (rw [hy332]; exact H) | exact H
         have Ny332 := Aside0.mk hy332; clear hy332; have H' := Aside0.mk H; clear H; have hcz26_0 := zc0 BK317; have hcz26_1 := zc1 BK317; have hcz26_2 := zc2 BK317; have hfz26_0 := zf BK317 0; have hfz26_1 := zf BK317 1; have hfz26_2 := zf BK317 2; have p327 := zQ (0 ≤ (x41_2 : Int)); have q327 := zQ (x41_2 < (l0_2.length : Int)); obtain ⟨ad327, A327_1, c327_1, A327_2, c327_2, e327, hx327_0, hx327_1, hx327_2, hl327_1, hi327_1, hl327_2, hi327_2⟩ := at_T25 HR0_2.out x41_2 p327 q327
         cases e327
         replace hx327_0 := zx HB hx327_0; replace hx327_1 := zx HB hx327_1; replace hx327_2 := zx HB hx327_2; have HR327_1 := Aside0.mk hi327_1; have HC327_1 := Aside0.mk hl327_1; clear hi327_1 hl327_1; have HR327_2 := Aside0.mk hi327_2; have HC327_2 := Aside0.mk hl327_2; clear hi327_2 hl327_2; replace p327 := eq_true p327; replace q327 := eq_true q327
         go_wp2_with (first | ((with_reducible refine gate_callee (f := 23) rfl ?_); refine goesL_ (some 50) rfl rfl Tryz.func23 (by kernel_rfl) rfl #[.agg #[.string ((rd_T25 l0_2 x41_2).f0), .slice A327_1 ((rd_T25 l0_2 x41_2).f1).length c327_1, .slice A327_2 ((rd_T25 l0_2 x41_2).f2).length c327_2]] rfl zA ?_; (with_reducible refine (ih k2 (by have := HK1.out; have := HK2.out; omega) ((rd_T25 l0_2 x41_2).f0) _ _ ((rd_T25 l0_2 x41_2).f1) _ _ ((rd_T25 l0_2 x41_2).f2) t328 t331 _ zG ?side1 ?side2 ?side3 ?side4 A23.out).mono ?_); (case side1 => exact Kd.C_below (Kd.C_below HR327_1.out HB.out) zX); (case side2 => exact HC327_1.out); (case side3 => exact Kd.C_below (Kd.C_below HR327_2.out HB.out) zX); (case side4 => exact HC327_2.out); rintro e w27 ⟨v329, rfl, ho0, hb⟩; refine ⟨_, rfl, ?_⟩; replace HO330 := Aside0.mk (Kd.R_lower (Kd.R_new' ho0 (Kd.R_lt (Kd.R_below HO_4.out zX))) (below_size zB)); replace HO_4 := Aside0.mk (Kd.R_elder' (Kd.R_below HO_4.out zX) (Kd.R_base ho0) hb); replace BK317 := zb BK317 hb; replace HB := zw hb; (try clear hb); (try clear ho0); obtain ⟨Ao29, co29, eo29⟩ := Kd.R_slice HO330.out; subst eo29) | ((with_reducible refine gate_builtin (b := .append) (xs := #[.tmp 56, .tmp 57]) rfl ?_); at_builtin; refine Kd.R_append_rows Kd.string (w0 := w) w.heap.size rfl (.tmp 56) (.tmp 57) 54 9 (.string ⟨#[]⟩) 16 rfl Tryz.underlying54 info9 rfl (by decide) (by omega) u4 x4_2 t328 _ _ _ (fun k_ => some k_ ≠ (.slice Ao29 t328.length co29 : Value).ownBlock) (fun _ => False) rfl rfl ?aO ?aR (fun _ _ h => h) (fun _ h => h.elim) ?aF ?aB ?aS ?aL ?_; (case aR => repeat (first | exact (Kd.R_reads' HO330.out).2.2 | (with_reducible refine Kd.C_alloc ?_ _) | (with_reducible refine Kd.C_drewN ?_ _) | (with_reducible refine Kd.C_drew ?_))); (case aB => exact zB); (case aF => exact (fun k_ hk => Kd.fresh' (Kd.R_lt (Kd.R_below HO330.out zX)) k_ hk)); (case aO => exact (by (with_reducible repeat (first | apply Kd.R_alloc | apply Kd.R_drewN | apply Kd.R_drew)); exact Kd.R_mono HO_4.out (fun _ hk => hk.2))); (case aS => exact (below_size zB)); (case aL => have := LMc25.out; omega); intro v333 w28 ho hb hg hat; rw [← Ny332.out] at ho; have n0_ := Aside0.mk (blk_grown (g := gb317) (o := .cells #[.string a0_0, .slice A0_1 l0_1.length c0_1, .slice (some ad327) l0_2.length c0_2] 25 (0, 0)) (blk_below BK317.out zX) hg (Kd.R_ne HO_4.out BK317.out (by decide))); have n1_ := Aside0.mk (Kd.R_after (ok := (fun _ => True)) (Kd.R_below HO330.out zX) hg hat); have n2_ := Aside0.mk (hb); have n3_ := Aside0.mk (ho); clear BK317; clear HO330; clear HB; clear HO_4; have BK317 := n0_; have HO330 := n1_; have HB := n2_; have HO334 := n3_; clear n0_ n1_ n2_ n3_; clear ho hb hg hat))
         go_roundg k2
         case measure => have := HK1.out; have := HK2.out; omega
         case rel => exact ⟨(y332), (wrap64 (x41_2 + 1)), zS, H', ⟨by have := HK1.out; have := HK2.out; omega⟩, ⟨by (with_reducible repeat (first | apply Kd.R_alloc | apply Kd.R_drewN | apply Kd.R_drew)); exact Kd.R_mono HO334.out (fun _ hk => trivial)⟩, ⟨blk_below BK317.out zX⟩, ⟨zB⟩⟩
        ·simp only [Option.some.injEq, Prod.mk.injEq] at H; obtain ⟨rfl, rfl⟩ := H; have hcz30_0 := zc0 BK317; have hcz30_1 := zc1 BK317; have hcz30_2 := zc2 BK317; have hfz30_0 := zf BK317 0; have hfz30_1 := zf BK317 1; have hfz30_2 := zf BK317 2; have p327 := zQ (0 ≤ (x41_2 : Int)); have q327 := zQ (x41_2 < (l0_2.length : Int)); obtain ⟨ad327, A327_1, c327_1, A327_2, c327_2, e327, hx327_0, hx327_1, hx327_2, hl327_1, hi327_1, hl327_2, hi327_2⟩ := at_T25 HR0_2.out x41_2 p327 q327
         cases e327
         replace hx327_0 := zx HB hx327_0; replace hx327_1 := zx HB hx327_1; replace hx327_2 := zx HB hx327_2; have HR327_1 := Aside0.mk hi327_1; have HC327_1 := Aside0.mk hl327_1; clear hi327_1 hl327_1; have HR327_2 := Aside0.mk hi327_2; have HC327_2 := Aside0.mk hl327_2; clear hi327_2 hl327_2; replace p327 := eq_true p327; replace q327 := eq_true q327
         go_wp2_with (first | ((with_reducible refine gate_callee (f := 23) rfl ?_); refine goesL_ (some 50) rfl rfl Tryz.func23 (by kernel_rfl) rfl #[.agg #[.string ((rd_T25 l0_2 x41_2).f0), .slice A327_1 ((rd_T25 l0_2 x41_2).f1).length c327_1, .slice A327_2 ((rd_T25 l0_2 x41_2).f2).length c327_2]] rfl zA ?_; (with_reducible refine (ih k2 (by have := HK1.out; have := HK2.out; omega) ((rd_T25 l0_2 x41_2).f0) _ _ ((rd_T25 l0_2 x41_2).f1) _ _ ((rd_T25 l0_2 x41_2).f2) t328 t331 _ zG ?side1 ?side2 ?side3 ?side4 A23.out).mono ?_); (case side1 => exact Kd.C_below (Kd.C_below HR327_1.out HB.out) zX); (case side2 => exact HC327_1.out); (case side3 => exact Kd.C_below (Kd.C_below HR327_2.out HB.out) zX); (case side4 => exact HC327_2.out); rintro e w31 ⟨v329, rfl, ho0, hb⟩; refine ⟨_, rfl, ?_⟩; replace HO330 := Aside0.mk (Kd.R_lower (Kd.R_new' ho0 (Kd.R_lt (Kd.R_below HO_4.out zX))) (below_size zB)); replace HO_4 := Aside0.mk (Kd.R_elder' (Kd.R_below HO_4.out zX) (Kd.R_base ho0) hb); replace BK317 := zb BK317 hb; replace HB := zw hb; (try clear hb); (try clear ho0)))
         go_ret2; exact ⟨_, zE, by first | exact Kd.R_nil _ _ _ _ _ | exact Kd.N_nil _ _ _ _ _ | exact Kd.V_nil _ _ _ _ _ | exact Kd.Q_nil _ _ _ _ _ | exact Kd.S_nil _ _ _ _ _, zB⟩
       ·replace H := zJ H; obtain ⟨c32, H⟩ := H; have c32b0 := eq_true c32; have c32b1 : decide (4 + a0_0.size ≤ 9223372036854775807) = true := decide_eq_true c32
        try have c32b2 : (9223372036854775807 < 4 + a0_0.size) = False := eq_false (Nat.not_lt.2 c32)
        replace H := zJ H; obtain ⟨c33, H⟩ := H; have LMc33 := Aside0.mk c33; clear c33; obtain ⟨y335, hy335⟩ : ∃ y_ : List ByteArray, y_ = (x4_2 ++ [(⟨#[69, 78, 68, 58]⟩ : ByteArray) ++ a0_0]) := ⟨_, rfl⟩; replace H : (some (y335, 0)) = some (r1, r2) := by first | (rw [hy335]; with_reducible exact H) | (have H2_ := (Option.bind_some _ _).symm.trans H; rw [hy335]; with_reducible exact H2_) | (have H2_ := (Option.bind_some _ _).symm.trans H; with_reducible exact H2_) | with_reducible exact H | (rw [hy335]; exact H) | exact H
        have Ny335 := Aside0.mk hy335; clear hy335; simp only [Option.some.injEq, Prod.mk.injEq] at H; obtain ⟨rfl, rfl⟩ := H; have hcz34_0 := zc0 BK317; have hcz34_1 := zc1 BK317; have hcz34_2 := zc2 BK317; have hfz34_0 := zf BK317 0; have hfz34_1 := zf BK317 1; have hfz34_2 := zf BK317 2
        go_wp2_with (first | ((with_reducible refine gate_builtin (b := .append) (xs := #[.tmp 60, .tmp 64]) rfl ?_); at_builtin; refine Kd.R_append Kd.string (w0 := w) w.heap.size rfl (.tmp 60) (.tmp 64) 54 9 (.string ⟨#[]⟩) 16 rfl Tryz.underlying54 info9 rfl (by decide) (by omega) u4 x4_2 ((⟨#[69, 78, 68, 58]⟩ : ByteArray) ++ a0_0) [.string ((⟨#[69, 78, 68, 58]⟩ : ByteArray) ++ a0_0)] (fun _ => True) (fun _ => False) rfl rfl ?aP (fun _ hk => hk.elim) ?aF ?aO ?aB ?aS ?aL ?_; (case aP => exact rfl); (case aB => exact zB); (case aF => exact (fun _ _ => trivial)); (case aO => exact (Kd.R_below HO_4.out zX)); (case aS => exact (below_size zB)); (case aL => have := LMc33.out; omega); intro v336 w35 ho hb hg hat; rw [← Ny335.out] at ho; have n0_ := Aside0.mk (blk_grown (g := gb317) (o := .cells #[.string a0_0, .slice A0_1 l0_1.length c0_1, .slice A0_2 l0_2.length c0_2] 25 (0, 0)) (blk_below BK317.out zX) hg (Kd.R_ne HO_4.out BK317.out (by decide))); have n1_ := Aside0.mk (hb); have n2_ := Aside0.mk (ho); clear BK317; clear HB; clear HO_4; have BK317 := n0_; have HB := n1_; have HO337 := n2_; clear n0_ n1_ n2_; clear ho hb hg hat))
        go_ret2; exact ⟨_, zE, by (with_reducible repeat (first | apply Kd.R_alloc | apply Kd.R_drewN | apply Kd.R_drew)); exact HO337.out, zB⟩
 ·exact zH H
def trystref08_size.f (k : Nat) (a0 : ByteArray) (a1 : Int) : Option (Int) := (trystref08_next.f k a0 a1).bind fun t338 => (some (mx 1 t338))
set_option maxHeartbeats 8000000 in
set_option maxRecDepth 100000 in
theorem trystref08_size.calls (k : Nat) (a0 : ByteArray) (a1 : Int) (r : Int) (w : World) (hG : GG w) (h : trystref08_size.f k a0 a1 = some r) :
  Calls Tryz.prog 43 #[.string a0, .int .i64 a1] w fun e w' => e = .returned (.int .i64 r) ∧ Below w.heap.size w w' := by
 have HB := Aside0.mk (Below.refl w.heap.size w); have H : ((trystref08_next.f k a0 a1).bind fun t338 => (some (mx 1 t338))) = some r := h; clear h; replace H := zO H; obtain ⟨t338, A3, H⟩ := H; obtain ⟨ji4, hji4⟩ : ∃ j_ : Int, (mx 1 t338) = j_ := ⟨_, rfl⟩; replace H : (some ji4) = some r := by first | (rw [hji4] at H; exact H) | (simp only [hji4] at H ⊢; exact H)
 (try rw [hji4] at A3); (try (have hji4l : 1 ≤ ji4 := by (rw [← hji4]; unfold mx; (repeat' split) <;> omega))); (try (have hji4m : 0 ≤ ji4 := by omega)); have hji4_ : (if 1 < t338 then t338 else 1) = ji4 := hji4; obtain rfl := Option.some.inj H
 go_enter Tryz.func43, Tryz.ntmps43
 go_wp2_with (first | ((with_reducible refine gate_callee (f := 69) rfl ?_); refine zq 7 Tryz.func69 #[.string a0, .int .i64 a1] (trystref08_next.calls k a0 a1 t338 _ zG A3.out) (fun nd => ?_)))
 go_ret; exact ⟨by first | rfl | (simp [errW_none, errW_some] <;> rfl) | (simp only [← hji4]; first | rfl | (simp [errW_none, errW_some] <;> rfl)) | (simp [*, errW_none, errW_some] <;> rfl), zB⟩
end Go.Proofs.YtdojmdbaiddkgaaGreatDoor.Print
end
section
namespace Go.Proofs.YtdojmdbaiddkgaaGreatDoor.Print
open Go.RowKit Go.Proofs.YtdojmdbaiddkgaaGreatDoorW.PrintWords Go.Proofs.YtdojmdbaiddkgaaGreatDoorW.PrintLast
set_option linter.unusedVariables false
set_option linter.unusedSimpArgs false
mutual
def trystref08_Fold.l0 : Nat → List ByteArray → Int → Int → Option (ByteArray × Int)
 | 0, _, _, _ => none
 | k + 1, x0, x15, x16 => if x16 < x15 then (if 0 ≤ x16 then (if x16 < (x0.length : Int) then (if (rdOf ByteArray.empty x0 x16).toList = ([] : List UInt8) then (trystref08_Fold.j1 k x0 (rdOf ByteArray.empty x0 x16) x15 x16 true) else (if 0 < ((rdOf ByteArray.empty x0 x16).size : Int) then (if (bt (rdOf ByteArray.empty x0 x16) 0) = 32 then (trystref08_Fold.j1 k x0 (rdOf ByteArray.empty x0 x16) x15 x16 true) else (trystref08_Fold.j1 k x0 (rdOf ByteArray.empty x0 x16) x15 x16 ((bt (rdOf ByteArray.empty x0 x16) 0) == 9))) else (none))) else (none)) else (none)) else (trystref08_Fold.l2 k x0 ([] : List Int) false (x0.length : Int) 0)
def trystref08_Fold.j1 : Nat → List ByteArray → ByteArray → Int → Int → Bool → Option (ByteArray × Int)
 | 0, _, _, _, _, _ => none
 | k + 1, x0, x5, x15, x16, x34 => if x34 = true then (some ((⟨#[]⟩ : ByteArray), 5)) else (trystref08_Fold.l1 k x0 x5 x15 x16 (x5.size : Int) 0)
def trystref08_Fold.l1 : Nat → List ByteArray → ByteArray → Int → Int → Int → Int → Option (ByteArray × Int)
 | 0, _, _, _, _, _, _ => none
 | k + 1, x0, x5, x15, x16, x36, x37 => if x37 < x36 then (if 0 ≤ x37 then (if x37 < (x5.size : Int) then (if (bt x5 x37) = 13 then (some ((⟨#[]⟩ : ByteArray), 5)) else (if (bt x5 x37) = 10 then (some ((⟨#[]⟩ : ByteArray), 5)) else (trystref08_Fold.l1 k x0 x5 x15 x16 x36 (wrap64 (x37 + 1))))) else (none)) else (none)) else (trystref08_Fold.l0 k x0 x15 (wrap64 (x16 + 1)))
def trystref08_Fold.l2 : Nat → List ByteArray → List Int → Bool → Int → Int → Option (ByteArray × Int)
 | 0, _, _, _, _, _ => none
 | k + 1, x0, x7, x8, x53, x54 => if x54 < x53 then (if 0 ≤ x54 then (if x54 < (x0.length : Int) then (if x8 = true then (trystref08_Fold.j4 k x0 x7 true (rdOf ByteArray.empty x0 x54) x53 x54) else (trystref08_Fold.j4 k x0 x7 (decide (((rdOf ByteArray.empty x0 x54).size : Int) > 2000)) (rdOf ByteArray.empty x0 x54) x53 x54)) else (none)) else (none)) else (if x8 = true then (some ((⟨#[]⟩ : ByteArray), 4)) else (some (strOfNums x7, 0)))
def trystref08_Fold.j4 : Nat → List ByteArray → List Int → Bool → ByteArray → Int → Int → Option (ByteArray × Int)
 | 0, _, _, _, _, _, _ => none
 | k + 1, x0, x7, x8, x10, x53, x54 => trystref08_Fold.l3 k x0 x7 x8 x10 0 0 x53 x54
def trystref08_Fold.l3 : Nat → List ByteArray → List Int → Bool → ByteArray → Int → Int → Int → Int → Option (ByteArray × Int)
 | 0, _, _, _, _, _, _, _, _ => none
 | k + 1, x0, x7, x8, x10, x11, x12, x53, x54 => if x12 < (x10.size : Int) then (trystref08_Fold.j6 k x0 x7 x8 x10 x11 x12 x53 x54 (!x8)) else (trystref08_Fold.j6 k x0 x7 x8 x10 x11 x12 x53 x54 false)
def trystref08_Fold.j6 : Nat → List ByteArray → List Int → Bool → ByteArray → Int → Int → Int → Int → Bool → Option (ByteArray × Int)
 | 0, _, _, _, _, _, _, _, _, _ => none
 | k + 1, x0, x7, x8, x10, x11, x12, x53, x54, x74 => if x74 = true then ((trystref08_size.f k x10 x12).bind fun t341 => (if (wrap64 (x11 + t341)) > 75 then ((some (([13, 10, 32] : List Int) : List Int)).bind fun y342 => (if x7.length + y342.length < 140737488355328 then ((some (x7 ++ y342 : List Int)).bind fun y345 => (if 0 ≤ x12 then (if x12 ≤ (wrap64 (x12 + t341)) then (if (wrap64 (x12 + t341)) ≤ (x10.size : Int) then (if y345.length + (x10.extract (x12 : Int).toNat ((wrap64 (x12 + t341)) : Int).toNat).size < 140737488355328 then (trystref08_Fold.l3 k x0 (y345 ++ bytesOf (x10.extract (x12 : Int).toNat ((wrap64 (x12 + t341)) : Int).toNat)) x8 x10 (wrap64 (1 + t341)) (wrap64 (x12 + t341)) x53 x54) else (none)) else (none)) else (none)) else (none))) else (none))) else (if 0 ≤ x12 then (if x12 ≤ (wrap64 (x12 + t341)) then (if (wrap64 (x12 + t341)) ≤ (x10.size : Int) then (if x7.length + (x10.extract (x12 : Int).toNat ((wrap64 (x12 + t341)) : Int).toNat).size < 140737488355328 then (trystref08_Fold.l3 k x0 (x7 ++ bytesOf (x10.extract (x12 : Int).toNat ((wrap64 (x12 + t341)) : Int).toNat)) x8 x10 (wrap64 (x11 + t341)) (wrap64 (x12 + t341)) x53 x54) else (none)) else (none)) else (none)) else (none)))) else ((some (([13, 10] : List Int) : List Int)).bind fun y354 => (if x7.length + y354.length < 140737488355328 then ((some (x7 ++ y354 : List Int)).bind fun y357 => (if x8 = true then (trystref08_Fold.l2 k x0 y357 true x53 (wrap64 (x54 + 1))) else (trystref08_Fold.l2 k x0 y357 (decide ((y357.length : Int) > 20000)) x53 (wrap64 (x54 + 1))))) else (none)))
end
def trystref08_Fold.f (k : Nat) (l0 : List ByteArray) : Option (ByteArray × Int) := trystref08_Fold.l0 k l0 (l0.length : Int) 0
set_option maxHeartbeats 8000000 in
set_option maxRecDepth 100000 in
theorem trystref08_Fold.calls (k : Nat) (A0 : Option Addr) (c0 : Nat) (l0 : List ByteArray) (r1 : ByteArray) (r2 : Int) (w : World) (hG : GG w) (hr0 : Kd.C Kd.string w A0 l0.length l0) (hc0 : l0.length ≤ c0) (h : trystref08_Fold.f k l0 = some (r1, r2)) :
  Calls Tryz.prog 24 #[.slice A0 l0.length c0] w fun e w' => e = .returned (.tuple #[.string r1, .int .i64 r2]) ∧ Below w.heap.size w w' := by
 have HR0 := Aside0.mk hr0; have HC0 := Aside0.mk hc0; clear hr0 hc0; have HB := Aside0.mk (Below.refl w.heap.size w); have H : (trystref08_Fold.l0 k l0 (l0.length : Int) 0) = some (r1, r2) := h; clear h; have H' := Aside0.mk H; clear H
 go_enter Tryz.func24, Tryz.ntmps24
 go_wp2
 go_loopg [16] k (fun kq v16 w' => ∃ (x16_1 : Int), v16 = .int .i64 x16_1 ∧ Aside0 (trystref08_Fold.l0 kq l0 (l0.length : Int) x16_1 = some (r1, r2)) ∧ Aside0 (kq ≤ k) ∧ Aside0 (Below w.heap.size w w'))
 case atStart => exact ⟨(0), zS, H', ⟨Nat.le_refl _⟩, ⟨zB⟩⟩
 case round =>
  clear H'; obtain ⟨x16_1, rfl, HA, HK1, HB⟩ := hrel
  cases gk with
  | zero => exact absurd HA.out (by simp [trystref08_Fold.l0])
  | succ k1 =>
   have H := HA.out; clear HA; simp only [trystref08_Fold.l0] at H; replace H := zId H; rcases H with ⟨-, c2b0, H⟩ | ⟨-, c2b0, H⟩
   ·replace H := zJd H; obtain ⟨-, c3b0, H⟩ := H; replace H := zJd H; obtain ⟨-, c4b0, H⟩ := H; have HC5 := Aside0.mk H; clear H; have p339 := zQ (0 ≤ (x16_1 : Int)); have q339 := zQ (x16_1 < (l0.length : Int)); obtain ⟨ad339, e339, hx339_0⟩ := Kd.at_string HR0.out x16_1 p339 q339
    cases e339
    replace hx339_0 := zx HB hx339_0; replace p339 := eq_true p339; replace q339 := eq_true q339
    go_upto_region 5 with (fail)
    go_cut [34] (fun v34 wc => ∃ (kq : Nat) (x34_4 : Bool), v34 = .bool x34_4 ∧ Aside0 (trystref08_Fold.j1 kq l0 (rdOf ByteArray.empty l0 x16_1) (l0.length : Int) x16_1 x34_4 = some (r1, r2)) ∧ Aside0 (kq ≤ k1) ∧ Aside0 (Below w.heap.size w wc))
    case first =>
     have H := HC5.out; clear HC5; replace H := zIe H; rcases H with ⟨-, c6b0, c6b1, H⟩ | ⟨c6, c6b0, c6b1, H⟩
     ·(first | rw [c6b0] | (simp only [i64_w, i32_w]; rw [c6b0]) | skip)
      have H' := Aside0.mk H; clear H; go_wp2
      go_meet
      case rel => exact ⟨_, (true), zS, H', ⟨by have := HK1.out; first | omega | exact Nat.le_refl _⟩, ⟨zB⟩⟩
     ·(first | rw [c6b0] | (simp only [i64_w, i32_w]; rw [c6b0]) | skip)
      replace H := zJd H; obtain ⟨c7, c7b0, H⟩ := H; have c7b1 : decide (0 < (rdOf ByteArray.empty l0 x16_1).size) = true := decide_eq_true (by omega); clear c7; replace H := zIe H; rcases H with ⟨-, c9b0, c9b1, H⟩ | ⟨c9, c9b0, c9b1, H⟩
      ·have H' := Aside0.mk H; clear H; have p8 : 0 ≤ (0 : Int) := (by omega); have q8 : 0 < (rdOf ByteArray.empty l0 x16_1).size := (by have : (0 : Int) < ((rdOf ByteArray.empty l0 x16_1).size : Int) := of_decide_eq_true (by first | (with_reducible assumption) | assumption); omega); have hx8 : ∀ h : 0 < (rdOf ByteArray.empty l0 x16_1).size, (((rdOf ByteArray.empty l0 x16_1)[0]'h).toNat : Int) = bt (rdOf ByteArray.empty l0 x16_1) 0 := bt_at (rdOf ByteArray.empty l0 x16_1) 0; clear p8; have qi8 : (0 < ((rdOf ByteArray.empty l0 x16_1).size : Int)) = True := eq_true (of_decide_eq_true (by first | (with_reducible assumption) | assumption)); replace q8 := eq_true q8; go_wp2
       go_meet
       case rel => exact ⟨_, (true), zS, H', ⟨by have := HK1.out; first | omega | exact Nat.le_refl _⟩, ⟨zB⟩⟩
      ·have H' := Aside0.mk H; clear H; have p8 : 0 ≤ (0 : Int) := (by omega); have q8 : 0 < (rdOf ByteArray.empty l0 x16_1).size := (by have : (0 : Int) < ((rdOf ByteArray.empty l0 x16_1).size : Int) := of_decide_eq_true (by first | (with_reducible assumption) | assumption); omega); have hx8 : ∀ h : 0 < (rdOf ByteArray.empty l0 x16_1).size, (((rdOf ByteArray.empty l0 x16_1)[0]'h).toNat : Int) = bt (rdOf ByteArray.empty l0 x16_1) 0 := bt_at (rdOf ByteArray.empty l0 x16_1) 0; clear p8; have qi8 : (0 < ((rdOf ByteArray.empty l0 x16_1).size : Int)) = True := eq_true (of_decide_eq_true (by first | (with_reducible assumption) | assumption)); replace q8 := eq_true q8; have p10 : 0 ≤ (0 : Int) := (by omega)
       have q10 : 0 < (rdOf ByteArray.empty l0 x16_1).size := (by have : (0 : Int) < ((rdOf ByteArray.empty l0 x16_1).size : Int) := of_decide_eq_true (by first | (with_reducible assumption) | assumption); omega); have hx10 : ∀ h : 0 < (rdOf ByteArray.empty l0 x16_1).size, (((rdOf ByteArray.empty l0 x16_1)[0]'h).toNat : Int) = bt (rdOf ByteArray.empty l0 x16_1) 0 := bt_at (rdOf ByteArray.empty l0 x16_1) 0; clear p10; have qi10 : (0 < ((rdOf ByteArray.empty l0 x16_1).size : Int)) = True := eq_true (of_decide_eq_true (by first | (with_reducible assumption) | assumption)); replace q10 := eq_true q10; go_wp2
       go_meet
       case rel => exact ⟨_, (((bt (rdOf ByteArray.empty l0 x16_1) 0) == 9)), zS, H', ⟨by have := HK1.out; first | omega | exact Nat.le_refl _⟩, ⟨zB⟩⟩
    case rest =>
     clear HC5; clear c2b0 c3b0 c4b0 hx339_0 p339 q339; obtain ⟨kq, x34_4, rfl, HA, HJ4, HB⟩ := hcut
     cases kq with
     | zero => exact absurd HA.out (by simp [trystref08_Fold.j1])
     | succ kj4 =>
      have H := HA.out; clear HA; simp only [trystref08_Fold.j1] at H; replace H := zIb H; rcases H with ⟨rfl, H⟩ | ⟨rfl, H⟩
      ·simp only [Option.some.injEq, Prod.mk.injEq] at H; obtain ⟨rfl, rfl⟩ := H; go_wp2; go_ret2; exact ⟨zE, zB⟩
      ·have H' := Aside0.mk H; clear H; go_wp2
       go_loopg [37] kj4 (fun kq v37 w' => ∃ (x37_3 : Int), v37 = .int .i64 x37_3 ∧ Aside0 (trystref08_Fold.l1 kq l0 (rdOf ByteArray.empty l0 x16_1) (l0.length : Int) x16_1 ((rdOf ByteArray.empty l0 x16_1).size : Int) x37_3 = some (r1, r2)) ∧ Aside0 (kq ≤ kj4) ∧ Aside0 (Below w.heap.size w w'))
       case atStart => exact ⟨(0), zS, H', ⟨Nat.le_refl _⟩, ⟨zB⟩⟩
       case round =>
        clear H'; obtain ⟨x37_3, rfl, HA, HK3, HB⟩ := hrel
        cases gk with
        | zero => exact absurd HA.out (by simp [trystref08_Fold.l1])
        | succ k3 =>
         have H := HA.out; clear HA; simp only [trystref08_Fold.l1] at H; replace H := zId H; rcases H with ⟨-, c12b0, H⟩ | ⟨-, c12b0, H⟩
         ·replace H := zJd H; obtain ⟨-, c13b0, H⟩ := H; replace H := zJd H; obtain ⟨-, c14b0, H⟩ := H; replace H := zIe H; rcases H with ⟨-, c16b0, c16b1, H⟩ | ⟨c16, c16b0, c16b1, H⟩
          ·simp only [Option.some.injEq, Prod.mk.injEq] at H; obtain ⟨rfl, rfl⟩ := H; have p15 := zP (0 ≤ (x37_3 : Int)); have q15 := zP (x37_3 < ((rdOf ByteArray.empty l0 x16_1).size : Int)); have hx15 := bt_at (rdOf ByteArray.empty l0 x16_1) x37_3; go_wp2; go_ret2; exact ⟨zE, zB⟩
          ·replace H := zIe H; rcases H with ⟨-, c18b0, c18b1, H⟩ | ⟨c18, c18b0, c18b1, H⟩
           ·simp only [Option.some.injEq, Prod.mk.injEq] at H; obtain ⟨rfl, rfl⟩ := H; have p15 := zP (0 ≤ (x37_3 : Int)); have q15 := zP (x37_3 < ((rdOf ByteArray.empty l0 x16_1).size : Int)); have hx15 := bt_at (rdOf ByteArray.empty l0 x16_1) x37_3; have p17 := zP (0 ≤ (x37_3 : Int)); have q17 := zP (x37_3 < ((rdOf ByteArray.empty l0 x16_1).size : Int)); have hx17 := bt_at (rdOf ByteArray.empty l0 x16_1) x37_3; go_wp2; go_ret2; exact ⟨zE, zB⟩
           ·have H' := Aside0.mk H; clear H; have p15 := zP (0 ≤ (x37_3 : Int)); have q15 := zP (x37_3 < ((rdOf ByteArray.empty l0 x16_1).size : Int)); have hx15 := bt_at (rdOf ByteArray.empty l0 x16_1) x37_3; have p17 := zP (0 ≤ (x37_3 : Int)); have q17 := zP (x37_3 < ((rdOf ByteArray.empty l0 x16_1).size : Int)); have hx17 := bt_at (rdOf ByteArray.empty l0 x16_1) x37_3; go_wp2
            go_roundg k3
            case measure => have := HK1.out; have := HJ4.out; have := HK3.out; omega
            case rel => exact ⟨(wrap64 (x37_3 + 1)), zS, H', ⟨by have := HK1.out; have := HJ4.out; have := HK3.out; omega⟩, ⟨zB⟩⟩
         ·have H' := Aside0.mk H; clear H; go_wp2
          go_roundg k3
          case measure => have := HK1.out; have := HJ4.out; have := HK3.out; omega
          case rel => exact ⟨(wrap64 (x16_1 + 1)), zS, H', ⟨by have := HK1.out; have := HJ4.out; have := HK3.out; omega⟩, ⟨zB⟩⟩
   ·have H' := Aside0.mk H; clear H; go_wp2
    go_loopg [7, 8, 54] k1 (fun kq v7 v8 v54 w' => ∃ (x7_2 : List Int) (x8_2 : Bool) (x54_2 : Int), v8 = .bool x8_2 ∧ v54 = .int .i64 x54_2 ∧ Aside0 (trystref08_Fold.l2 kq l0 x7_2 x8_2 (l0.length : Int) x54_2 = some (r1, r2)) ∧ Aside0 (kq ≤ k1) ∧ Aside0 (Kd.R (Kd.int .u8) 5 w' w.heap.size (fun _ => True) v7 x7_2) ∧ Aside0 (Below w.heap.size w w'))
    case atStart => exact ⟨(([] : List Int)), (false), (0), zS, zS, H', ⟨Nat.le_refl _⟩, ⟨by first | exact Kd.R_nil _ _ _ _ _ | exact Kd.N_nil _ _ _ _ _ | exact Kd.V_nil _ _ _ _ _ | exact Kd.Q_nil _ _ _ _ _ | exact Kd.S_nil _ _ _ _ _⟩, ⟨zB⟩⟩
    case round =>
     clear H'; clear c2b0; obtain ⟨x7_2, x8_2, x54_2, rfl, rfl, HA, HK2, HO_7, HB⟩ := hrel
     cases gk with
     | zero => exact absurd HA.out (by simp [trystref08_Fold.l2])
     | succ k2 =>
      have H := HA.out; clear HA; simp only [trystref08_Fold.l2] at H; replace H := zId H; rcases H with ⟨-, c19b0, H⟩ | ⟨-, c19b0, H⟩
      ·replace H := zJd H; obtain ⟨-, c20b0, H⟩ := H; replace H := zJd H; obtain ⟨-, c21b0, H⟩ := H; have HC22 := Aside0.mk H; clear H; have p340 := zQ (0 ≤ (x54_2 : Int)); have q340 := zQ (x54_2 < (l0.length : Int)); obtain ⟨ad340, e340, hx340_0⟩ := Kd.at_string HR0.out x54_2 p340 q340
       cases e340
       replace hx340_0 := zx HB hx340_0; replace p340 := eq_true p340; replace q340 := eq_true q340
       go_upto_region 20 with (fail)
       go_cut [8] (fun v8 wc => ∃ (kq : Nat) (x8_21 : Bool), v8 = .bool x8_21 ∧ Aside0 (trystref08_Fold.j4 kq l0 x7_2 x8_21 (rdOf ByteArray.empty l0 x54_2) (l0.length : Int) x54_2 = some (r1, r2)) ∧ Aside0 (kq ≤ k2) ∧ Aside0 (Kd.R (Kd.int .u8) 5 wc w.heap.size (fun _ => True) u7 x7_2) ∧ Aside0 (Below w.heap.size w wc))
       case first =>
        have H := HC22.out; clear HC22; replace H := zIb H; rcases H with ⟨rfl, H⟩ | ⟨rfl, H⟩
        ·have H' := Aside0.mk H; clear H; go_wp2
         go_meet
         case rel => exact ⟨_, (true), zS, H', ⟨by have := HK1.out; have := HK2.out; first | omega | exact Nat.le_refl _⟩, ⟨Kd.R_below HO_7.out zX⟩, ⟨zB⟩⟩
        ·have H' := Aside0.mk H; clear H; go_wp2
         go_meet
         case rel => exact ⟨_, (decide (((rdOf ByteArray.empty l0 x54_2).size : Int) > 2000)), zS, H', ⟨by have := HK1.out; have := HK2.out; first | omega | exact Nat.le_refl _⟩, ⟨Kd.R_below HO_7.out zX⟩, ⟨zB⟩⟩
       case rest =>
        clear HC22; clear c19b0 c20b0 c21b0 hx340_0 p340 q340; obtain ⟨kq, x8_21, rfl, HA, HJ21, HO_7, HB⟩ := hcut
        cases kq with
        | zero => exact absurd HA.out (by simp [trystref08_Fold.j4])
        | succ kj21 =>
         have H := HA.out; clear HA; simp only [trystref08_Fold.j4] at H; have H' := Aside0.mk H; clear H; go_wp2
         go_loopg [7, 11, 12] kj21 (fun kq v7 v11 v12 w' => ∃ (x7_4 : List Int) (x11_4 : Int) (x12_4 : Int), v11 = .int .i64 x11_4 ∧ v12 = .int .i64 x12_4 ∧ Aside0 (trystref08_Fold.l3 kq l0 x7_4 x8_21 (rdOf ByteArray.empty l0 x54_2) x11_4 x12_4 (l0.length : Int) x54_2 = some (r1, r2)) ∧ Aside0 (kq ≤ kj21) ∧ Aside0 (Kd.R (Kd.int .u8) 5 w' w.heap.size (fun _ => True) v7 x7_4) ∧ Aside0 (Below w.heap.size w w'))
         case atStart => exact ⟨(x7_2), (0), (0), zS, zS, H', ⟨Nat.le_refl _⟩, ⟨Kd.R_below HO_7.out zX⟩, ⟨zB⟩⟩
         case round =>
          clear H'; obtain ⟨x7_4, x11_4, x12_4, rfl, rfl, HA, HK4, HO_7, HB⟩ := hrel
          cases gk with
          | zero => exact absurd HA.out (by simp [trystref08_Fold.l3])
          | succ k4 =>
           have H := HA.out; clear HA; simp only [trystref08_Fold.l3] at H; have HC24 := Aside0.mk H; clear H
           go_upto_region 23 with (fail)
           go_cut [74] (fun v74 wc => ∃ (kq : Nat) (x74_23 : Bool), v74 = .bool x74_23 ∧ Aside0 (trystref08_Fold.j6 kq l0 x7_4 x8_21 (rdOf ByteArray.empty l0 x54_2) x11_4 x12_4 (l0.length : Int) x54_2 x74_23 = some (r1, r2)) ∧ Aside0 (kq ≤ k4) ∧ Aside0 (Kd.R (Kd.int .u8) 5 wc w.heap.size (fun _ => True) u7 x7_4) ∧ Aside0 (Below w.heap.size w wc))
           case first =>
            have H := HC24.out; clear HC24; replace H := zId H; rcases H with ⟨-, c25b0, H⟩ | ⟨-, c25b0, H⟩
            ·(first | rw [c25b0] | (simp only [i64_w, i32_w]; rw [c25b0]) | skip)
             have H' := Aside0.mk H; clear H; go_wp2
             go_meet
             case rel => exact ⟨_, (!x8_21), zS, H', ⟨by have := HK1.out; have := HK2.out; have := HJ21.out; have := HK4.out; first | omega | exact Nat.le_refl _⟩, ⟨Kd.R_below HO_7.out zX⟩, ⟨zB⟩⟩
            ·(first | rw [c25b0] | (simp only [i64_w, i32_w]; rw [c25b0]) | skip)
             have H' := Aside0.mk H; clear H; go_wp2
             go_meet
             case rel => exact ⟨_, (false), zS, H', ⟨by have := HK1.out; have := HK2.out; have := HJ21.out; have := HK4.out; first | omega | exact Nat.le_refl _⟩, ⟨Kd.R_below HO_7.out zX⟩, ⟨zB⟩⟩
           case rest =>
            clear HC24; obtain ⟨kq, x74_23, rfl, HA, HJ23, HO_7, HB⟩ := hcut
            cases kq with
            | zero => exact absurd HA.out (by simp [trystref08_Fold.j6])
            | succ kj23 =>
             have H := HA.out; clear HA; simp only [trystref08_Fold.j6] at H; replace H := zIb H; rcases H with ⟨rfl, H⟩ | ⟨rfl, H⟩
             ·replace H := zO H; obtain ⟨t341, A27, H⟩ := H; replace H := zI H; rcases H with ⟨c28, H⟩ | ⟨c28, H⟩
              ·have c28b0 : decide (75 < (wrap64 (x11_4 + t341))) = true := decide_eq_true c28; clear c28; obtain ⟨y342, hy342⟩ : ∃ y_ : List Int, y_ = (([13, 10, 32] : List Int)) := ⟨_, rfl⟩
               replace H : (if x7_4.length + y342.length < 140737488355328 then ((some (x7_4 ++ y342 : List Int)).bind fun y345 => (if 0 ≤ x12_4 then (if x12_4 ≤ (wrap64 (x12_4 + t341)) then (if (wrap64 (x12_4 + t341)) ≤ ((rdOf ByteArray.empty l0 x54_2).size : Int) then (if y345.length + ((rdOf ByteArray.empty l0 x54_2).extract (x12_4 : Int).toNat ((wrap64 (x12_4 + t341)) : Int).toNat).size < 140737488355328 then (trystref08_Fold.l3 kj23 l0 (y345 ++ bytesOf ((rdOf ByteArray.empty l0 x54_2).extract (x12_4 : Int).toNat ((wrap64 (x12_4 + t341)) : Int).toNat)) x8_21 (rdOf ByteArray.empty l0 x54_2) (wrap64 (1 + t341)) (wrap64 (x12_4 + t341)) (l0.length : Int) x54_2) else (none)) else (none)) else (none)) else (none))) else (none)) = some (r1, r2) := by first | (rw [hy342]; with_reducible exact H) | (have H2_ := (Option.bind_some _ _).symm.trans H; rw [hy342]; with_reducible exact H2_) | (have H2_ := (Option.bind_some _ _).symm.trans H; with_reducible exact H2_) | with_reducible exact H | (rw [hy342]; exact H) | exact H
               have Ny342 := Aside0.mk hy342; clear hy342; replace H := zJ H; obtain ⟨c29, H⟩ := H; have LMc29 := Aside0.mk c29; clear c29; obtain ⟨y345, hy345⟩ : ∃ y_ : List Int, y_ = (x7_4 ++ y342) := ⟨_, rfl⟩
               replace H : (if 0 ≤ x12_4 then (if x12_4 ≤ (wrap64 (x12_4 + t341)) then (if (wrap64 (x12_4 + t341)) ≤ ((rdOf ByteArray.empty l0 x54_2).size : Int) then (if y345.length + ((rdOf ByteArray.empty l0 x54_2).extract (x12_4 : Int).toNat ((wrap64 (x12_4 + t341)) : Int).toNat).size < 140737488355328 then (trystref08_Fold.l3 kj23 l0 (y345 ++ bytesOf ((rdOf ByteArray.empty l0 x54_2).extract (x12_4 : Int).toNat ((wrap64 (x12_4 + t341)) : Int).toNat)) x8_21 (rdOf ByteArray.empty l0 x54_2) (wrap64 (1 + t341)) (wrap64 (x12_4 + t341)) (l0.length : Int) x54_2) else (none)) else (none)) else (none)) else (none)) = some (r1, r2) := by first | (rw [hy345]; with_reducible exact H) | (have H2_ := (Option.bind_some _ _).symm.trans H; rw [hy345]; with_reducible exact H2_) | (have H2_ := (Option.bind_some _ _).symm.trans H; with_reducible exact H2_) | with_reducible exact H | (rw [hy345]; exact H) | exact H
               have Ny345 := Aside0.mk hy345; clear hy345; replace H := zJ H; obtain ⟨c30, H⟩ := H; have c30b0 := eq_true c30; have c30b1 : decide (0 ≤ x12_4) = true := decide_eq_true c30; clear c30; replace H := zJ H; obtain ⟨c31, H⟩ := H; have c31b0 := eq_true c31; have c31b1 : decide (x12_4 ≤ (wrap64 (x12_4 + t341))) = true := decide_eq_true c31; replace H := zJ H; obtain ⟨c32, H⟩ := H; have c32b0 := eq_true c32; have c32b1 : decide ((wrap64 (x12_4 + t341)) ≤ ((rdOf ByteArray.empty l0 x54_2).size : Int)) = true := decide_eq_true c32; replace H := zJ H; obtain ⟨c33, H⟩ := H; have LMc33 := Aside0.mk c33; clear c33; obtain ⟨y348, hy348⟩ : ∃ y_ : List Int, y_ = (y345 ++ bytesOf ((rdOf ByteArray.empty l0 x54_2).extract (x12_4 : Int).toNat ((wrap64 (x12_4 + t341)) : Int).toNat)) := ⟨_, rfl⟩
               replace H : (trystref08_Fold.l3 kj23 l0 y348 x8_21 (rdOf ByteArray.empty l0 x54_2) (wrap64 (1 + t341)) (wrap64 (x12_4 + t341)) (l0.length : Int) x54_2) = some (r1, r2) := by first | (rw [hy348]; with_reducible exact H) | (have H2_ := (Option.bind_some _ _).symm.trans H; rw [hy348]; with_reducible exact H2_) | (have H2_ := (Option.bind_some _ _).symm.trans H; with_reducible exact H2_) | with_reducible exact H | (rw [hy348]; exact H) | exact H
               have Ny348 := Aside0.mk hy348; clear hy348; have H' := Aside0.mk H; clear H
               go_wp2_with (first | ((with_reducible refine gate_callee (f := 43) rfl ?_); refine zqb 77 Tryz.func43 #[.string (rdOf ByteArray.empty l0 x54_2), .int .i64 x12_4] (trystref08_size.calls kj23 (rdOf ByteArray.empty l0 x54_2) x12_4 t341 _ zG A27.out) (fun w34 hb => ?_); replace HO_7 := Aside0.mk (Kd.R_below (Kd.R_below HO_7.out zX) hb); replace HB := zw hb; (try clear hb)) | ((with_reducible refine gate_dst (N := 83) rfl ?_); (try (refine gate_guard (by rfl) ?_; dsimp only)); refine Kd.R_lit (Kd.int .u8) _ 5 ?hg (N := 83) ?hd (xs := ([13, 10, 32] : List Int)) (inner := [.int .u8 13, .int .u8 10, .int .u8 32]) (ok := fun _ => True) (okp := fun _ => True) ?hr ?hp (fun _ hk => hk) trivial (Below.refl _ _) (Nat.le_refl _) (by simp) ?_; (case hd => rfl); (case hg => rfl); (case hr => first | (go_simp; done) | (go_simp; rfl)); (case hp => exact (Reps.one (show Kd.M (Kd.int .u8) _ _ _ 13 [.int .u8 13] from rfl) (Reps.one (show Kd.M (Kd.int .u8) _ _ _ 10 [.int .u8 10] from rfl) (Reps.one (show Kd.M (Kd.int .u8) _ _ _ 32 [.int .u8 32] from rfl) (Reps.none _ _))))); intro v343 w35 ho36 hb hg_ hnew_; clear hg_ hnew_; (first | rw [← Ny342.out] at ho36 | (simp only [Int.reduceToNat] at ho36; rw [← Ny342.out] at ho36)); replace HO344 := Aside0.mk (Kd.R_lower (Kd.R_new' ho36 (Kd.R_lt (Kd.R_below HO_7.out zX))) (below_size zB)); replace HO_7 := Aside0.mk (Kd.R_elder' (Kd.R_below HO_7.out zX) (Kd.R_base ho36) hb); replace HB := zw hb; clear hb ho36; obtain ⟨Ao38, co38, eo38⟩ := Kd.R_slice HO344.out; subst eo38) | ((with_reducible refine gate_builtin (b := .append) (xs := #[.tmp 82, .tmp 83]) rfl ?_); (try (refine gate_guard (by rfl) ?_; dsimp only)); at_builtin; refine Kd.R_append_rows (Kd.int .u8) (w0 := w) w.heap.size rfl (.tmp 82) (.tmp 83) 82 5 (.int .u8 0) 1 rfl Tryz.underlying82 info5 rfl (by decide) (by omega) u7 x7_4 y342 _ _ _ (fun _ => True) (fun _ => False) rfl rfl ?aO ?aR (fun _ _ h => h) (fun _ h => h.elim) ?aF ?aB ?aS ?aL ?_; (case aR => repeat (first | exact (Kd.R_reads' HO344.out).2.2 | (with_reducible refine Kd.C_alloc ?_ _) | (with_reducible refine Kd.C_drewN ?_ _) | (with_reducible refine Kd.C_drew ?_))); (case aB => exact zB); (case aF => exact (fun _ _ => trivial)); (case aO => exact (by (with_reducible repeat (first | apply Kd.R_alloc | apply Kd.R_drewN | apply Kd.R_drew)); exact Kd.R_mono HO_7.out (fun _ hk => trivial))); (case aS => exact (below_size zB)); (case aL => have := LMc29.out; omega); intro v346 w37 ho hb hg hat; rw [← Ny345.out] at ho; have n0_ := Aside0.mk (hb); have n1_ := Aside0.mk (ho); clear HB; clear HO_7; clear HO344; have HB := n0_; have HO347 := n1_; clear n0_ n1_; clear ho hb hg hat) | (at_builtin; refine print_append_str (w0 := w) w.heap.size rfl (.tmp 85) _ 82 9 5 rfl Tryz.underlying82 Tryz.underlying9 info5 v346 y345 ((rdOf ByteArray.empty l0 x54_2).extract (x12_4 : Int).toNat ((wrap64 (x12_4 + t341)) : Int).toNat) rfl rfl ?aO ?aB ?aS ?aL ?_; (case aB => exact zB); (case aO => exact (Kd.own_of_R (Kd.R_below HO347.out zX))); (case aS => exact (below_size zB)); (case aL => have := LMc33.out; omega); intro v349 w39 ho0 hb hg; have ho := Kd.R_of_own (h1 := fun _ => rfl) (ok := fun _ => True) ho0 (fun _ _ => trivial); clear ho0; have hat := True.intro; rw [← Ny348.out] at ho; change Kd.R (Kd.int .u8) 5 w39 w.heap.size (fun _ => True) v349 y348 at ho; have n0_ := Aside0.mk (hb); have n1_ := Aside0.mk (ho); clear HB; clear HO347; have HB := n0_; have HO350 := n1_; clear n0_ n1_; clear ho hb hg hat))
               go_roundg kj23
               case measure => have := HK1.out; have := HK2.out; have := HJ21.out; have := HK4.out; have := HJ23.out; omega
               case rel => exact ⟨(y348), (wrap64 (1 + t341)), (wrap64 (x12_4 + t341)), zS, zS, H', ⟨by have := HK1.out; have := HK2.out; have := HJ21.out; have := HK4.out; have := HJ23.out; omega⟩, ⟨Kd.R_below HO350.out zX⟩, ⟨zB⟩⟩
              ·have c28b0 : decide (75 < (wrap64 (x11_4 + t341))) = false := decide_eq_false c28; clear c28; replace H := zJ H; obtain ⟨c40, H⟩ := H; have c40b0 := eq_true c40; have c40b1 : decide (0 ≤ x12_4) = true := decide_eq_true c40; clear c40; replace H := zJ H; obtain ⟨c41, H⟩ := H; have c41b0 := eq_true c41; have c41b1 : decide (x12_4 ≤ (wrap64 (x12_4 + t341))) = true := decide_eq_true c41; replace H := zJ H; obtain ⟨c42, H⟩ := H; have c42b0 := eq_true c42; have c42b1 : decide ((wrap64 (x12_4 + t341)) ≤ ((rdOf ByteArray.empty l0 x54_2).size : Int)) = true := decide_eq_true c42; replace H := zJ H; obtain ⟨c43, H⟩ := H; have LMc43 := Aside0.mk c43; clear c43; obtain ⟨y351, hy351⟩ : ∃ y_ : List Int, y_ = (x7_4 ++ bytesOf ((rdOf ByteArray.empty l0 x54_2).extract (x12_4 : Int).toNat ((wrap64 (x12_4 + t341)) : Int).toNat)) := ⟨_, rfl⟩
               replace H : (trystref08_Fold.l3 kj23 l0 y351 x8_21 (rdOf ByteArray.empty l0 x54_2) (wrap64 (x11_4 + t341)) (wrap64 (x12_4 + t341)) (l0.length : Int) x54_2) = some (r1, r2) := by first | (rw [hy351]; with_reducible exact H) | (have H2_ := (Option.bind_some _ _).symm.trans H; rw [hy351]; with_reducible exact H2_) | (have H2_ := (Option.bind_some _ _).symm.trans H; with_reducible exact H2_) | with_reducible exact H | (rw [hy351]; exact H) | exact H
               have Ny351 := Aside0.mk hy351; clear hy351; have H' := Aside0.mk H; clear H
               go_wp2_with (first | ((with_reducible refine gate_callee (f := 43) rfl ?_); refine zqb 77 Tryz.func43 #[.string (rdOf ByteArray.empty l0 x54_2), .int .i64 x12_4] (trystref08_size.calls kj23 (rdOf ByteArray.empty l0 x54_2) x12_4 t341 _ zG A27.out) (fun w44 hb => ?_); replace HO_7 := Aside0.mk (Kd.R_below (Kd.R_below HO_7.out zX) hb); replace HB := zw hb; (try clear hb)) | (at_builtin; refine print_append_str (w0 := w) w.heap.size rfl (.tmp 85) _ 82 9 5 rfl Tryz.underlying82 Tryz.underlying9 info5 u7 x7_4 ((rdOf ByteArray.empty l0 x54_2).extract (x12_4 : Int).toNat ((wrap64 (x12_4 + t341)) : Int).toNat) rfl rfl ?aO ?aB ?aS ?aL ?_; (case aB => exact zB); (case aO => exact (Kd.own_of_R (Kd.R_below HO_7.out zX))); (case aS => exact (below_size zB)); (case aL => have := LMc43.out; omega); intro v352 w45 ho0 hb hg; have ho := Kd.R_of_own (h1 := fun _ => rfl) (ok := fun _ => True) ho0 (fun _ _ => trivial); clear ho0; have hat := True.intro; rw [← Ny351.out] at ho; change Kd.R (Kd.int .u8) 5 w45 w.heap.size (fun _ => True) v352 y351 at ho; have n0_ := Aside0.mk (hb); have n1_ := Aside0.mk (ho); clear HB; clear HO_7; have HB := n0_; have HO353 := n1_; clear n0_ n1_; clear ho hb hg hat))
               go_roundg kj23
               case measure => have := HK1.out; have := HK2.out; have := HJ21.out; have := HK4.out; have := HJ23.out; omega
               case rel => exact ⟨(y351), (wrap64 (x11_4 + t341)), (wrap64 (x12_4 + t341)), zS, zS, H', ⟨by have := HK1.out; have := HK2.out; have := HJ21.out; have := HK4.out; have := HJ23.out; omega⟩, ⟨Kd.R_below HO353.out zX⟩, ⟨zB⟩⟩
             ·obtain ⟨y354, hy354⟩ : ∃ y_ : List Int, y_ = (([13, 10] : List Int)) := ⟨_, rfl⟩; replace H : (if x7_4.length + y354.length < 140737488355328 then ((some (x7_4 ++ y354 : List Int)).bind fun y357 => (if x8_21 = true then (trystref08_Fold.l2 kj23 l0 y357 true (l0.length : Int) (wrap64 (x54_2 + 1))) else (trystref08_Fold.l2 kj23 l0 y357 (decide ((y357.length : Int) > 20000)) (l0.length : Int) (wrap64 (x54_2 + 1))))) else (none)) = some (r1, r2) := by first | (rw [hy354]; with_reducible exact H) | (have H2_ := (Option.bind_some _ _).symm.trans H; rw [hy354]; with_reducible exact H2_) | (have H2_ := (Option.bind_some _ _).symm.trans H; with_reducible exact H2_) | with_reducible exact H | (rw [hy354]; exact H) | exact H
              have Ny354 := Aside0.mk hy354; clear hy354; replace H := zJ H; obtain ⟨c46, H⟩ := H; have LMc46 := Aside0.mk c46; clear c46; obtain ⟨y357, hy357⟩ : ∃ y_ : List Int, y_ = (x7_4 ++ y354) := ⟨_, rfl⟩; replace H : (if x8_21 = true then (trystref08_Fold.l2 kj23 l0 y357 true (l0.length : Int) (wrap64 (x54_2 + 1))) else (trystref08_Fold.l2 kj23 l0 y357 (decide ((y357.length : Int) > 20000)) (l0.length : Int) (wrap64 (x54_2 + 1)))) = some (r1, r2) := by first | (rw [hy357]; with_reducible exact H) | (have H2_ := (Option.bind_some _ _).symm.trans H; rw [hy357]; with_reducible exact H2_) | (have H2_ := (Option.bind_some _ _).symm.trans H; with_reducible exact H2_) | with_reducible exact H | (rw [hy357]; exact H) | exact H
              have Ny357 := Aside0.mk hy357; clear hy357; replace H := zIb H; rcases H with ⟨rfl, H⟩ | ⟨rfl, H⟩
              ·have H' := Aside0.mk H; clear H
               go_wp2_with (first | ((with_reducible refine gate_dst (N := 100) rfl ?_); (try (refine gate_guard (by rfl) ?_; dsimp only)); refine Kd.R_lit (Kd.int .u8) _ 5 ?hg (N := 100) ?hd (xs := ([13, 10] : List Int)) (inner := [.int .u8 13, .int .u8 10]) (ok := fun _ => True) (okp := fun _ => True) ?hr ?hp (fun _ hk => hk) trivial (Below.refl _ _) (Nat.le_refl _) (by simp) ?_; (case hd => rfl); (case hg => rfl); (case hr => first | (go_simp; done) | (go_simp; rfl)); (case hp => exact (Reps.one (show Kd.M (Kd.int .u8) _ _ _ 13 [.int .u8 13] from rfl) (Reps.one (show Kd.M (Kd.int .u8) _ _ _ 10 [.int .u8 10] from rfl) (Reps.none _ _)))); intro v355 w48 ho49 hb hg_ hnew_; clear hg_ hnew_; (first | rw [← Ny354.out] at ho49 | (simp only [Int.reduceToNat] at ho49; rw [← Ny354.out] at ho49)); replace HO356 := Aside0.mk (Kd.R_lower (Kd.R_new' ho49 (Kd.R_lt (Kd.R_below HO_7.out zX))) (below_size zB)); replace HO_7 := Aside0.mk (Kd.R_elder' (Kd.R_below HO_7.out zX) (Kd.R_base ho49) hb); replace HB := zw hb; clear hb ho49; obtain ⟨Ao51, co51, eo51⟩ := Kd.R_slice HO356.out; subst eo51) | ((with_reducible refine gate_builtin (b := .append) (xs := #[.tmp 99, .tmp 100]) rfl ?_); (try (refine gate_guard (by rfl) ?_; dsimp only)); at_builtin; refine Kd.R_append_rows (Kd.int .u8) (w0 := w) w.heap.size rfl (.tmp 99) (.tmp 100) 82 5 (.int .u8 0) 1 rfl Tryz.underlying82 info5 rfl (by decide) (by omega) u7 x7_4 y354 _ _ _ (fun _ => True) (fun _ => False) rfl rfl ?aO ?aR (fun _ _ h => h) (fun _ h => h.elim) ?aF ?aB ?aS ?aL ?_; (case aR => repeat (first | exact (Kd.R_reads' HO356.out).2.2 | (with_reducible refine Kd.C_alloc ?_ _) | (with_reducible refine Kd.C_drewN ?_ _) | (with_reducible refine Kd.C_drew ?_))); (case aB => exact zB); (case aF => exact (fun _ _ => trivial)); (case aO => exact (by (with_reducible repeat (first | apply Kd.R_alloc | apply Kd.R_drewN | apply Kd.R_drew)); exact Kd.R_mono HO_7.out (fun _ hk => trivial))); (case aS => exact (below_size zB)); (case aL => have := LMc46.out; omega); intro v358 w50 ho hb hg hat; rw [← Ny357.out] at ho; have n0_ := Aside0.mk (hb); have n1_ := Aside0.mk (ho); clear HB; clear HO_7; clear HO356; have HB := n0_; have HO359 := n1_; clear n0_ n1_; clear ho hb hg hat))
               go_roundg kj23
               case measure => have := HK1.out; have := HK2.out; have := HJ21.out; have := HK4.out; have := HJ23.out; omega
               case rel => exact ⟨(y357), (true), (wrap64 (x54_2 + 1)), zS, zS, H', ⟨by have := HK1.out; have := HK2.out; have := HJ21.out; have := HK4.out; have := HJ23.out; omega⟩, ⟨Kd.R_below HO359.out zX⟩, ⟨zB⟩⟩
              ·have H' := Aside0.mk H; clear H
               go_wp2_with (first | ((with_reducible refine gate_dst (N := 100) rfl ?_); (try (refine gate_guard (by rfl) ?_; dsimp only)); refine Kd.R_lit (Kd.int .u8) _ 5 ?hg (N := 100) ?hd (xs := ([13, 10] : List Int)) (inner := [.int .u8 13, .int .u8 10]) (ok := fun _ => True) (okp := fun _ => True) ?hr ?hp (fun _ hk => hk) trivial (Below.refl _ _) (Nat.le_refl _) (by simp) ?_; (case hd => rfl); (case hg => rfl); (case hr => first | (go_simp; done) | (go_simp; rfl)); (case hp => exact (Reps.one (show Kd.M (Kd.int .u8) _ _ _ 13 [.int .u8 13] from rfl) (Reps.one (show Kd.M (Kd.int .u8) _ _ _ 10 [.int .u8 10] from rfl) (Reps.none _ _)))); intro v355 w52 ho53 hb hg_ hnew_; clear hg_ hnew_; (first | rw [← Ny354.out] at ho53 | (simp only [Int.reduceToNat] at ho53; rw [← Ny354.out] at ho53)); replace HO356 := Aside0.mk (Kd.R_lower (Kd.R_new' ho53 (Kd.R_lt (Kd.R_below HO_7.out zX))) (below_size zB)); replace HO_7 := Aside0.mk (Kd.R_elder' (Kd.R_below HO_7.out zX) (Kd.R_base ho53) hb); replace HB := zw hb; clear hb ho53; obtain ⟨Ao55, co55, eo55⟩ := Kd.R_slice HO356.out; subst eo55) | ((with_reducible refine gate_builtin (b := .append) (xs := #[.tmp 99, .tmp 100]) rfl ?_); (try (refine gate_guard (by rfl) ?_; dsimp only)); at_builtin; refine Kd.R_append_rows (Kd.int .u8) (w0 := w) w.heap.size rfl (.tmp 99) (.tmp 100) 82 5 (.int .u8 0) 1 rfl Tryz.underlying82 info5 rfl (by decide) (by omega) u7 x7_4 y354 _ _ _ (fun _ => True) (fun _ => False) rfl rfl ?aO ?aR (fun _ _ h => h) (fun _ h => h.elim) ?aF ?aB ?aS ?aL ?_; (case aR => repeat (first | exact (Kd.R_reads' HO356.out).2.2 | (with_reducible refine Kd.C_alloc ?_ _) | (with_reducible refine Kd.C_drewN ?_ _) | (with_reducible refine Kd.C_drew ?_))); (case aB => exact zB); (case aF => exact (fun _ _ => trivial)); (case aO => exact (by (with_reducible repeat (first | apply Kd.R_alloc | apply Kd.R_drewN | apply Kd.R_drew)); exact Kd.R_mono HO_7.out (fun _ hk => trivial))); (case aS => exact (below_size zB)); (case aL => have := LMc46.out; omega); intro v358 w54 ho hb hg hat; rw [← Ny357.out] at ho; have n0_ := Aside0.mk (hb); have n1_ := Aside0.mk (ho); clear HB; clear HO_7; clear HO356; have HB := n0_; have HO359 := n1_; clear n0_ n1_; clear ho hb hg hat; obtain ⟨Ao56, co56, eo56⟩ := Kd.R_slice HO359.out; subst eo56))
               go_roundg kj23
               case measure => have := HK1.out; have := HK2.out; have := HJ21.out; have := HK4.out; have := HJ23.out; omega
               case rel => exact ⟨(y357), (decide ((y357.length : Int) > 20000)), (wrap64 (x54_2 + 1)), zS, zS, H', ⟨by have := HK1.out; have := HK2.out; have := HJ21.out; have := HK4.out; have := HJ23.out; omega⟩, ⟨Kd.R_below HO359.out zX⟩, ⟨zB⟩⟩
      ·replace H := zIb H; rcases H with ⟨rfl, H⟩ | ⟨rfl, H⟩
       ·simp only [Option.some.injEq, Prod.mk.injEq] at H; obtain ⟨rfl, rfl⟩ := H; go_wp2; go_ret2; exact ⟨zE, zB⟩
       ·simp only [Option.some.injEq, Prod.mk.injEq] at H; obtain ⟨rfl, rfl⟩ := H; have hcv58 := own_string (P := Tryz.prog) Tryz.underlying82 Tryz.underlying5 Tryz.underlying9 (Kd.own_of_R HO_7.out); go_wp2; go_ret2; exact ⟨zE, zB⟩
end Go.Proofs.YtdojmdbaiddkgaaGreatDoor.Print
end
section
set_option linter.unusedVariables false
set_option linter.unusedSimpArgs false
set_option linter.unusedSectionVars false
namespace Go.Proofs.YtdojmdbaiddkgaaGreatDoor.Pure
open Go.RowKit Go.Proofs.YtdojmdbaiddkgaaGreatDoor.Print Go.Proofs.YtdojmdbaiddkgaaGreatDoorW.PrintWords Go.Proofs.YtdojmdbaiddkgaaGreatDoorW.PrintLast
/-- Bytes, as the printed functions hold a list of them. -/
def fI (L : List UInt8) : List Int := L.map fun b => (b.toNat : Int)
theorem str_fI (L : List UInt8) : strOfNums (fI L) = ⟨L.toArray⟩ := by simp only [fI]; exact Go.Lib.Lz.strOfNums_map L
theorem fI_len (L : List UInt8) : (fI L).length = L.length := by simp [fI]
theorem fI_app (L M : List UInt8) : fI L ++ fI M = fI (L ++ M) := by simp [fI]
theorem mx_nx (l : List UInt8) (hne : l ≠ []) : mx 1 ((nx l : Nat) : Int) = (((Lib.decodeL l).2 : Nat) : Int) := by
  have h1 := decL_pos l hne
  unfold mx
  by_cases hb : (Lib.decodeL l).1 = 65533 ∧ (Lib.decodeL l).2 = 1
  · rw [(nx_bad l hne).2 hb, hb.2]; rfl
  · rw [nx_good l hb]; split <;> omega
theorem size_ev (s : ByteArray) (i : Nat) (hi : i < s.size) (hs : s.size ≤ 140737488351232) : Ev (fun k => trystref08_size.f k s i) (((Lib.decodeL (s.data.toList.drop i)).2 : Nat) : Int) := by
  have hne : s.data.toList.drop i ≠ [] := by
    intro e; have := congrArg List.length e; simp at this; omega
  refine Ev.bind (next_ev s i hi hs) ?_
  rw [mx_nx _ hne]
  exact Ev.now _
/-- A line's rest, where room bytes are left. -/
def restT (l : List UInt8) (r : Nat) : List UInt8 := l.take (takeT l r) ++ [13, 10] ++ (if l.drop (takeT l r) = [] then [] else [32]) ++ oneT (l.drop (takeT l r)) 74
theorem restT_nil (r : Nat) : restT [] r = [13, 10] := by
  unfold restT; rw [takeT_nil]; rfl
theorem restT_fit (l : List UInt8) (r : Nat) (hne : l ≠ []) (h : (Lib.decodeL l).2 ≤ r) : restT l r = l.take (Lib.decodeL l).2 ++ restT (l.drop (Lib.decodeL l).2) (r - (Lib.decodeL l).2) := by
  unfold restT
  rw [takeT_step l r hne, if_neg (by omega), List.drop_drop, List.take_add, List.append_assoc, List.append_assoc, List.append_assoc, List.append_assoc, List.append_assoc]
theorem restT_new (l : List UInt8) (r : Nat) (hne : l ≠ []) (h : r < (Lib.decodeL l).2) : restT l r = [13, 10, 32] ++ l.take (Lib.decodeL l).2 ++ restT (l.drop (Lib.decodeL l).2) (74 - (Lib.decodeL l).2) := by
  have h4 := dL_le4 l hne
  have e : oneT l 74 = restT l 74 := by rw [oneT_step l 74 hne (by omega)]; rfl
  have e0 : restT l r = [13, 10, 32] ++ oneT l 74 := by
    unfold restT
    rw [takeT_step l r hne, if_pos h, List.take_zero, List.drop_zero, if_neg hne]; rfl
  rw [e0, e, restT_fit l 74 hne (by omega), List.append_assoc]
theorem restT_one (l : List UInt8) (hne : l ≠ []) : oneT l 75 = restT l 75 := by rw [oneT_step l 75 hne (by omega)]; rfl
theorem bytesOf_fI (s : ByteArray) : bytesOf s = fI s.data.toList := by
  simp [bytesOf, fI, Lib.toList_data]
section
variable {X : List ByteArray} {s : ByteArray} {n5 n4 : Int} {p : Nat} (hp : p < s.size) (hs : s.size ≤ 100000)
include hp hs
theorem w_fit (k : Nat) (A : List UInt8) (w c : Nat) (hA : A.length + 5 * s.size ≤ 100000000) (hpc : p + c ≤ s.size) (hw : w + c ≤ 75) :
    (if (wrap64 ((w : Int) + (c : Int))) > 75 then ((some (([13, 10, 32] : List Int) : List Int)).bind fun y217 => (if (fI A).length + y217.length < 140737488355328 then ((some ((fI A) ++ y217 : List Int)).bind fun y220 => (if (0 : Int) ≤ (p : Int) then (if (p : Int) ≤ (wrap64 ((p : Int) + (c : Int))) then (if (wrap64 ((p : Int) + (c : Int))) ≤ (s.size : Int) then (if y220.length + (s.extract ((p : Int) : Int).toNat ((wrap64 ((p : Int) + (c : Int))) : Int).toNat).size < 140737488355328 then (trystref08_Fold.l3 k X (y220 ++ bytesOf (s.extract ((p : Int) : Int).toNat ((wrap64 ((p : Int) + (c : Int))) : Int).toNat)) false s (wrap64 (1 + (c : Int))) (wrap64 ((p : Int) + (c : Int))) n5 n4) else (none)) else (none)) else (none)) else (none))) else (none))) else (if (0 : Int) ≤ (p : Int) then (if (p : Int) ≤ (wrap64 ((p : Int) + (c : Int))) then (if (wrap64 ((p : Int) + (c : Int))) ≤ (s.size : Int) then (if (fI A).length + (s.extract ((p : Int) : Int).toNat ((wrap64 ((p : Int) + (c : Int))) : Int).toNat).size < 140737488355328 then (trystref08_Fold.l3 k X ((fI A) ++ bytesOf (s.extract ((p : Int) : Int).toNat ((wrap64 ((p : Int) + (c : Int))) : Int).toNat)) false s (wrap64 ((w : Int) + (c : Int))) (wrap64 ((p : Int) + (c : Int))) n5 n4) else (none)) else (none)) else (none)) else (none)))
    = trystref08_Fold.l3 k X (fI (A ++ (s.data.toList.drop p).take c)) false s ((w + c : Nat) : Int) ((p + c : Nat) : Int) n5 n4 := by
  rw [wrap_nat w c (by omega), wrap_nat p c (by omega), if_neg (by omega), if_pos (by omega), if_pos (by omega), if_pos (by omega), Int.toNat_natCast, Int.toNat_natCast, if_pos (by rw [fI_len, ByteArray.size_extract]; omega), bytesOf_fI, extT, fI_app]
theorem w_new (k : Nat) (A : List UInt8) (w c : Nat) (hA : A.length + 5 * s.size ≤ 100000000) (hpc : p + c ≤ s.size) (hw : 75 < w + c) (hw2 : w ≤ 75) (hc : c ≤ 4) :
    (if (wrap64 ((w : Int) + (c : Int))) > 75 then ((some (([13, 10, 32] : List Int) : List Int)).bind fun y217 => (if (fI A).length + y217.length < 140737488355328 then ((some ((fI A) ++ y217 : List Int)).bind fun y220 => (if (0 : Int) ≤ (p : Int) then (if (p : Int) ≤ (wrap64 ((p : Int) + (c : Int))) then (if (wrap64 ((p : Int) + (c : Int))) ≤ (s.size : Int) then (if y220.length + (s.extract ((p : Int) : Int).toNat ((wrap64 ((p : Int) + (c : Int))) : Int).toNat).size < 140737488355328 then (trystref08_Fold.l3 k X (y220 ++ bytesOf (s.extract ((p : Int) : Int).toNat ((wrap64 ((p : Int) + (c : Int))) : Int).toNat)) false s (wrap64 (1 + (c : Int))) (wrap64 ((p : Int) + (c : Int))) n5 n4) else (none)) else (none)) else (none)) else (none))) else (none))) else (if (0 : Int) ≤ (p : Int) then (if (p : Int) ≤ (wrap64 ((p : Int) + (c : Int))) then (if (wrap64 ((p : Int) + (c : Int))) ≤ (s.size : Int) then (if (fI A).length + (s.extract ((p : Int) : Int).toNat ((wrap64 ((p : Int) + (c : Int))) : Int).toNat).size < 140737488355328 then (trystref08_Fold.l3 k X ((fI A) ++ bytesOf (s.extract ((p : Int) : Int).toNat ((wrap64 ((p : Int) + (c : Int))) : Int).toNat)) false s (wrap64 ((w : Int) + (c : Int))) (wrap64 ((p : Int) + (c : Int))) n5 n4) else (none)) else (none)) else (none)) else (none)))
    = trystref08_Fold.l3 k X (fI (A ++ [13, 10, 32] ++ (s.data.toList.drop p).take c)) false s ((1 + c : Nat) : Int) ((p + c : Nat) : Int) n5 n4 := by
  have e : ([13, 10, 32] : List Int) = fI [13, 10, 32] := rfl
  rw [wrap_nat w c (by omega), wrap_nat p c (by omega), if_pos (by omega), e, show (1 : Int) + (c : Int) = (((1 : Nat) : Int) + (c : Int)) from rfl, wrap_nat 1 c (by omega)]
  simp only [Option.bind_some]
  rw [fI_app, if_pos (by rw [fI_len, fI_len]; simp; omega), if_pos (by omega), if_pos (by omega), if_pos (by omega), Int.toNat_natCast, Int.toNat_natCast, if_pos (by rw [fI_len, ByteArray.size_extract]; simp; omega), bytesOf_fI, extT, fI_app]
end
theorem l3_end (k : Nat) (X : List ByteArray) (s : ByteArray) (A : List UInt8) (w n5 n4 : Int) (hA : A.length ≤ 100000000) :
    trystref08_Fold.l3 (k + 2) X (fI A) false s w ((s.size : Nat) : Int) n5 n4 = trystref08_Fold.l2 k X (fI (A ++ [13, 10])) (decide (((A ++ [13, 10]).length : Int) > 20000)) n5 (wrap64 (n4 + 1)) := by
  have e : ([13, 10] : List Int) = fI [13, 10] := rfl
  simp only [trystref08_Fold.l3, trystref08_Fold.j6, Option.bind_some]
  rw [if_neg (by omega), if_neg (by simp), e, fI_app, fI_len, fI_len, fI_len]
  rw [if_pos (by simp; omega), if_neg (by simp)]
theorem l3_ev (X : List ByteArray) (s : ByteArray) (hs : s.size ≤ 100000) (n5 n4 : Int) (R : ByteArray × Int) : ∀ (n p w : Nat) (A : List UInt8), s.size - p ≤ n → p ≤ s.size → w ≤ 75 → A.length + 5 * s.size ≤ 1000000 + 5 * p →
    Ev (fun k => trystref08_Fold.l2 k X (fI (A ++ restT (s.data.toList.drop p) (75 - w))) (decide (((A ++ restT (s.data.toList.drop p) (75 - w)).length : Int) > 20000)) n5 (wrap64 (n4 + 1))) R →
    Ev (fun k => trystref08_Fold.l3 k X (fI A) false s (w : Int) (p : Int) n5 n4) R
  | 0, p, w, A, hn, hp, hw, hA, H => by
    obtain rfl : p = s.size := by omega
    rw [List.drop_of_length_le (by simp), restT_nil] at H
    obtain ⟨K, hK⟩ := H
    refine ⟨K + 2, fun k hk => ?_⟩
    obtain ⟨j, rfl⟩ : ∃ j, k = j + 2 := ⟨k - 2, by omega⟩
    show trystref08_Fold.l3 (j + 2) X (fI A) false s (w : Int) ((s.size : Nat) : Int) n5 n4 = some R
    rw [l3_end j X s A w n5 n4 (by omega)]
    exact hK j (by omega)
  | n + 1, p, w, A, hn, hp, hw, hA, H => by
    by_cases hlt : p < s.size
    case neg => exact l3_ev X s hs n5 n4 R n p w A (by omega) hp hw hA H
    have hne : s.data.toList.drop p ≠ [] := by
      intro e; have := congrArg List.length e; simp at this; omega
    have h1 := decL_pos _ hne
    have h4 := dL_le4 _ hne
    have hle := Lib.decodeL_le _ hne
    rw [List.length_drop] at hle
    have hsz : s.data.toList.length = s.size := by simp
    rw [hsz] at hle
    have hev := size_ev s p hlt (by omega)
    have IH := fun w' A' => l3_ev X s hs n5 n4 R n (p + (Lib.decodeL (s.data.toList.drop p)).2) w' A' (by omega) (by omega)
    have hfit := restT_fit (s.data.toList.drop p) (75 - w) hne
    have hnew := restT_new (s.data.toList.drop p) (75 - w) hne
    rw [List.drop_drop] at hfit hnew
    generalize (Lib.decodeL (s.data.toList.drop p)).2 = c at *
    have htl : ((s.data.toList.drop p).take c).length = c := by rw [List.length_take, List.length_drop, hsz]; omega
    refine Ev.step (f := fun k => trystref08_Fold.j6 k X (fI A) false s (w : Int) (p : Int) n5 n4 true) (fun k => by simp only [trystref08_Fold.l3]; rw [if_pos (by omega)]; rfl) ?_
    refine Ev.step (f := _) (fun k => by simp only [trystref08_Fold.j6, if_true]; rfl) ?_
    refine Ev.bind hev ?_
    by_cases hfw : w + c ≤ 75
    · refine Ev.congr (fun k => w_fit hlt hs k A w c (by omega) (by omega) hfw) ?_
      refine IH _ _ (by omega) (by rw [List.length_append, htl]; omega) ?_
      rw [hfit (by omega), ← List.append_assoc] at H
      rw [show 75 - (w + c) = 75 - w - c by omega]
      exact H
    · refine Ev.congr (fun k => w_new hlt hs k A w c (by omega) (by omega) (by omega) hw h4) ?_
      refine IH _ _ (by omega) (by rw [List.length_append, List.length_append, htl]; simp; omega) ?_
      rw [hnew (by omega), ← List.append_assoc, ← List.append_assoc] at H
      rw [show 75 - (1 + c) = 74 - c by omega]
      exact H
theorem long_ev (X : List ByteArray) (hX : X.length ≤ 100000) : ∀ (n i : Nat) (y : List Int), X.length - i ≤ n → i ≤ X.length → y.length + 2 * X.length ≤ 100000000 + 2 * i →
    Ev (fun k => trystref08_Fold.l2 k X y true (X.length : Int) (i : Int)) (⟨#[]⟩, 4)
  | 0, i, y, hn, hi, hy => by
    obtain rfl : i = X.length := by omega
    exact Ev.step (f := fun _ => some (⟨#[]⟩, 4)) (fun k => by simp only [trystref08_Fold.l2]; rw [if_neg (by omega), if_pos trivial]) (Ev.now _)
  | n + 1, i, y, hn, hi, hy => by
    by_cases hlt : i < X.length
    case neg => exact long_ev X hX n i y (by omega) hi hy
    refine Ev.step (f := fun k => trystref08_Fold.j4 k X y true X[i] (X.length : Int) (i : Int)) (fun k => by simp only [trystref08_Fold.l2, rdAt X i hlt]; rw [if_pos (by omega), if_pos (by omega), if_pos (by omega), if_pos trivial]) ?_
    refine Ev.step (f := fun k => trystref08_Fold.l3 k X y true X[i] 0 0 (X.length : Int) (i : Int)) (fun k => by simp only [trystref08_Fold.j4]) ?_
    refine Ev.step (f := fun k => trystref08_Fold.j6 k X y true X[i] 0 0 (X.length : Int) (i : Int) false) (fun k => by simp only [trystref08_Fold.l3]; split <;> rfl) ?_
    refine Ev.step (f := fun k => trystref08_Fold.l2 k X (y ++ [13, 10]) true (X.length : Int) ((i + 1 : Nat) : Int)) (fun k => ?_) ?_
    · simp only [trystref08_Fold.j6, Option.bind_some]
      rw [if_neg (by simp), if_pos (by simp; omega), if_pos trivial, wrap_one i (by omega)]
    · exact long_ev X hX n (i + 1) _ (by omega) (by omega) (by rw [List.length_append]; simp; omega)
theorem restT_le (s : ByteArray) : (restT s.data.toList 75).length ≤ 4 * s.size + 2 := by
  by_cases h : s.data.toList = []
  · rw [h, restT_nil]; simp
  · have := oneT_len _ s.data.toList 75 (by omega) (Nat.le_refl _)
    rw [restT_one _ h] at this
    have e : s.data.toList.length = s.size := by simp
    omega
/-- foldR, as the reference goes on with an empty line. -/
def foldP : List ByteArray → List UInt8 → ByteArray × Int
  | [], acc => if acc.length > 20000 then (⟨#[]⟩, 4) else (⟨acc.toArray⟩, 0)
  | s :: t, acc => if s.size > 2000 ∨ acc.length > 20000 then (⟨#[]⟩, 4) else foldP t (acc ++ restT s.data.toList 75)
theorem foldP_eq : ∀ (l : List ByteArray) (A : List UInt8), (∀ x ∈ l, x.size ≠ 0) → foldP l A = foldR l A
  | [], _, _ => rfl
  | s :: t, A, h => by
    have hnn : s.data.toList ≠ [] := fun e => h s (by simp) (by have := congrArg List.length e; simpa using this)
    unfold foldP foldR
    rw [← restT_one _ hnn, foldP_eq t _ (fun x hx => h x (by simp [hx]))]
theorem all_ev (X : List ByteArray) (hX : X.length ≤ 100000) (hsz : ∀ x ∈ X, x.size ≤ 100000) : ∀ (n i : Nat) (A : List UInt8), X.length - i ≤ n → i ≤ X.length → A.length ≤ 29000 →
    Ev (fun k => trystref08_Fold.l2 k X (fI A) (decide ((A.length : Int) > 20000)) (X.length : Int) (i : Int)) (foldP (X.drop i) A)
  | 0, i, A, hn, hi, hA => by
    obtain rfl : i = X.length := by omega
    rw [List.drop_length]
    unfold foldP
    by_cases hl : A.length > 20000
    · rw [if_pos hl, decide_eq_true (by omega)]
      exact long_ev X hX 0 _ _ (by omega) (by omega) (by rw [fI_len]; omega)
    · rw [if_neg hl, decide_eq_false (by omega)]
      exact Ev.step (f := fun _ => some (⟨A.toArray⟩, 0)) (fun k => by simp only [trystref08_Fold.l2]; rw [if_neg (by omega), if_neg (by simp), str_fI]) (Ev.now _)
  | n + 1, i, A, hn, hi, hA => by
    by_cases hlt : i < X.length
    case neg => exact all_ev X hX hsz n i A (by omega) hi hA
    have hx := hsz X[i] (List.getElem_mem hlt)
    rw [List.drop_eq_getElem_cons hlt]
    unfold foldP
    by_cases hl : A.length > 20000
    · rw [if_pos (.inr hl), decide_eq_true (by omega)]
      exact long_ev X hX _ _ _ hn (by omega) (by rw [fI_len]; omega)
    · rw [decide_eq_false (show ¬ (A.length : Int) > 20000 by omega)]
      refine Ev.step (f := fun k => trystref08_Fold.j4 k X (fI A) (decide ((X[i].size : Int) > 2000)) X[i] (X.length : Int) (i : Int)) (fun k => by simp only [trystref08_Fold.l2, rdAt X i hlt]; rw [if_pos (by omega), if_pos (by omega), if_pos (by omega), if_neg (by simp)]) ?_
      refine Ev.step (f := fun k => trystref08_Fold.l3 k X (fI A) (decide ((X[i].size : Int) > 2000)) X[i] 0 0 (X.length : Int) (i : Int)) (fun k => by simp only [trystref08_Fold.j4]) ?_
      by_cases hb : X[i].size > 2000
      · rw [if_pos (.inl hb), decide_eq_true (by omega)]
        refine Ev.step (f := fun k => trystref08_Fold.j6 k X (fI A) true X[i] 0 0 (X.length : Int) (i : Int) false) (fun k => by simp only [trystref08_Fold.l3]; split <;> rfl) ?_
        refine Ev.step (f := fun k => trystref08_Fold.l2 k X (fI A ++ [13, 10]) true (X.length : Int) ((i + 1 : Nat) : Int)) (fun k => ?_) ?_
        · simp only [trystref08_Fold.j6, Option.bind_some]
          rw [if_neg (by simp), if_pos (by simp [fI_len]; omega), if_pos trivial, wrap_one i (by omega)]
        · exact long_ev X hX n (i + 1) _ (by omega) (by omega) (by rw [List.length_append, fI_len]; simp; omega)
      · rw [if_neg (by omega), decide_eq_false (show ¬ (X[i].size : Int) > 2000 by omega)]
        have hlen := restT_le X[i]
        have ih := all_ev X hX hsz n (i + 1) (A ++ restT X[i].data.toList 75) (by omega) (by omega) (by rw [List.length_append]; omega)
        rw [← wrap_one i (by omega)] at ih
        have := l3_ev X X[i] hx (X.length : Int) (i : Int) (foldP (X.drop (i + 1)) (A ++ restT X[i].data.toList 75)) X[i].size 0 0 A (by omega) (by omega) (by omega) (by omega) (by rw [List.drop_zero]; exact ih)
        exact this
theorem l1_step (X : List ByteArray) (s : ByteArray) (n5 n4 : Int) (k j : Nat) (hj : j < s.size) (hs : s.size ≤ 100000) (c : UInt8) (hb : bt s (j : Int) = (c.toNat : Int)) :
    trystref08_Fold.l1 (k + 1) X s n5 n4 (s.size : Int) (j : Int) = if nlB c = true then some (⟨#[]⟩, 5) else trystref08_Fold.l1 k X s n5 n4 (s.size : Int) ((j + 1 : Nat) : Int) := by
  simp only [trystref08_Fold.l1, hb]
  rw [if_pos (by omega), if_pos (by omega), if_pos (by omega), wrap_one j (by omega)]
  by_cases h1 : c = 13
  · rw [if_pos (show (c.toNat : Int) = 13 from is_natF c 13 (by omega) h1), if_pos (by rw [h1]; rfl)]
  rw [if_neg (show ¬ (c.toNat : Int) = 13 from ne_nat c 13 (by omega) h1)]
  by_cases h2 : c = 10
  · rw [if_pos (show (c.toNat : Int) = 10 from is_natF c 10 (by omega) h2), if_pos (by rw [h2]; rfl)]
  rw [if_neg (show ¬ (c.toNat : Int) = 10 from ne_nat c 10 (by omega) h2), if_neg (by simp [nlB, h1, h2])]
theorem l1_evF (X : List ByteArray) (s : ByteArray) (n5 n4 : Int) (hs : s.size ≤ 100000) (R : ByteArray × Int) (H : Ev (fun k => trystref08_Fold.l0 k X n5 (wrap64 (n4 + 1))) R) : ∀ (n j : Nat), s.size - j ≤ n → j ≤ s.size →
    Ev (fun k => trystref08_Fold.l1 k X s n5 n4 (s.size : Int) (j : Int)) (if (s.data.toList.drop j).any nlB = true then (⟨#[]⟩, 5) else R)
  | 0, j, hn, hj => by
    obtain rfl : j = s.size := by omega
    rw [List.drop_of_length_le (by simp)]
    refine Ev.step (fun k => by simp only [trystref08_Fold.l1]; rw [if_neg (by omega)]) H
  | n + 1, j, hn, hj => by
    by_cases hlt : j < s.size
    case neg => exact l1_evF X s n5 n4 hs R H n j (by omega) hj
    rw [drop_at s j hlt]
    have hb := bt_nat s j
    have ih := l1_evF X s n5 n4 hs R H n (j + 1) (by omega) (by omega)
    generalize s.data.toList.getD j 0 = c at *
    refine Ev.step (fun k => l1_step X s n5 n4 k j hlt hs c hb) ?_
    rw [List.any_cons]
    cases hq : nlB c
    · simpa using ih
    · exact Ev.now _
theorem l0_evF (X : List ByteArray) (hX : X.length ≤ 100000) (hsz : ∀ x ∈ X, x.size ≤ 100000) (R : ByteArray × Int) (H : Ev (fun k => trystref08_Fold.l2 k X [] false (X.length : Int) 0) R) : ∀ (n i : Nat), X.length - i ≤ n → i ≤ X.length →
    Ev (fun k => trystref08_Fold.l0 k X (X.length : Int) (i : Int)) (if (X.drop i).any badF = true then (⟨#[]⟩, 5) else R)
  | 0, i, hn, hi => by
    obtain rfl : i = X.length := by omega
    rw [List.drop_length]
    refine Ev.step (fun k => by simp only [trystref08_Fold.l0]; rw [if_neg (by omega)]) H
  | n + 1, i, hn, hi => by
    by_cases hlt : i < X.length
    case neg => exact l0_evF X hX hsz R H n i (by omega) hi
    have hx := hsz X[i] (List.getElem_mem hlt)
    have ih := l0_evF X hX hsz R H n (i + 1) (by omega) (by omega)
    rw [List.drop_eq_getElem_cons hlt, List.any_cons]
    have hr := rdAt X i hlt
    generalize X[i] = s at *
    have hj1 : Ev (fun k => trystref08_Fold.j1 k X s (X.length : Int) (i : Int) true) (⟨#[]⟩, 5) := Ev.step (f := fun _ => some (⟨#[]⟩, 5)) (fun k => by simp only [trystref08_Fold.j1, if_true]) (Ev.now _)
    by_cases h0 : s.size = 0
    · have e := nil_ofF s h0
      have hb : badF s = true := by unfold badF; rw [e]; rfl
      rw [hb, Bool.true_or, if_pos rfl]
      refine Ev.step (fun k => ?_) hj1
      simp only [trystref08_Fold.l0, hr]
      rw [if_pos (by omega), if_pos (by omega), if_pos (by omega), if_pos (by rw [Lib.toList_data]; exact e)]
    · have hne : s.data.toList ≠ [] := fun e => h0 (by have := congrArg List.length e; simpa using this)
      have he : s.data.toList.isEmpty = false := by
        cases h : s.data.toList with
        | nil => exact absurd h hne
        | cons a t => rfl
      have hb0 := bt_nat s 0
      rw [show ((0 : Nat) : Int) = 0 from rfl] at hb0
      have hB : badF s = (s.data.toList.isEmpty || s.data.toList.getD 0 0 == 32 || s.data.toList.getD 0 0 == 9 || Lib.containsAny s.data.toList [13, 10]) := rfl
      rw [hB, he, Bool.false_or, contains_nl]
      clear hB
      generalize s.data.toList.getD 0 0 = c at *
      by_cases h1 : c = 32
      · rw [show (c == 32) = true by rw [h1]; rfl, Bool.true_or, Bool.true_or, Bool.true_or, if_pos rfl]
        refine Ev.step (fun k => ?_) hj1
        simp only [trystref08_Fold.l0, hr, hb0]
        rw [if_pos (by omega), if_pos (by omega), if_pos (by omega), if_neg (by rw [Lib.toList_data]; exact hne), if_pos (by omega), if_pos (show (c.toNat : Int) = 32 from is_natF c 32 (by omega) h1)]
      · rw [show (c == 32) = false from beq_eq_false_iff_ne.2 h1, Bool.false_or]
        by_cases h2 : c = 9
        · rw [show (c == 9) = true by rw [h2]; rfl, Bool.true_or, Bool.true_or, if_pos rfl]
          refine Ev.step (fun k => ?_) hj1
          simp only [trystref08_Fold.l0, hr, hb0]
          rw [if_pos (by omega), if_pos (by omega), if_pos (by omega), if_neg (by rw [Lib.toList_data]; exact hne), if_pos (by omega), if_neg (show ¬ (c.toNat : Int) = 32 from ne_nat c 32 (by omega) h1), beq_iff_eq.2 (show (c.toNat : Int) = 9 from is_natF c 9 (by omega) h2)]
        · rw [show (c == 9) = false from beq_eq_false_iff_ne.2 h2, Bool.false_or]
          rw [← wrap_one i (by omega)] at ih
          have hl1 := l1_evF X s (X.length : Int) (i : Int) hx _ ih s.size 0 (by omega) (by omega)
          rw [List.drop_zero] at hl1
          refine Ev.step (f := fun k => trystref08_Fold.j1 k X s (X.length : Int) (i : Int) false) (fun k => ?_) ?_
          · simp only [trystref08_Fold.l0, hr, hb0]
            rw [if_pos (by omega), if_pos (by omega), if_pos (by omega), if_neg (by rw [Lib.toList_data]; exact hne), if_pos (by omega), if_neg (show ¬ (c.toNat : Int) = 32 from ne_nat c 32 (by omega) h1), beq_eq_false_iff_ne.2 (show ¬ (c.toNat : Int) = 9 from ne_nat c 9 (by omega) h2)]
          · refine Ev.step (f := fun k => trystref08_Fold.l1 k X s (X.length : Int) (i : Int) (s.size : Int) ((0 : Nat) : Int)) (fun k => by simp only [trystref08_Fold.j1]; rw [if_neg (by simp)]; rfl) ?_
            cases hq : s.data.toList.any nlB
            · rw [hq] at hl1; simp only [Bool.false_or, Bool.false_eq_true, if_false] at hl1 ⊢; exact hl1
            · rw [hq] at hl1; simp only [Bool.true_or, if_true] at hl1 ⊢; exact hl1
theorem ref_fold (X : List ByteArray) (hX : X.length ≤ 100000) (hsz : ∀ x ∈ X, x.size ≤ 100000) : Ev (fun k => trystref08_Fold.f k X) (foldA X) := by
  have h2 := all_ev X hX hsz X.length 0 [] (by omega) (by omega) (by simp)
  have h := l0_evF X hX hsz _ h2 X.length 0 (by omega) (by omega)
  rw [List.drop_zero] at h
  unfold foldA
  by_cases hb : X.any badF = true
  · rw [if_pos hb] at h ⊢; exact h
  · rw [if_neg hb] at h ⊢
    rw [foldP_eq X [] (fun x hx h0 => hb (List.any_eq_true.2 ⟨x, hx, by unfold badF; rw [nil_ofF x h0]; rfl⟩))] at h
    exact h
end Go.Proofs.YtdojmdbaiddkgaaGreatDoor.Pure
end
section
namespace Go.Proofs.YtdojmdbaiddkgaaGreatDoor.Print
open Go.RowKit Go.Proofs.YtdojmdbaiddkgaaGreatDoorW.PrintWords Go.Proofs.YtdojmdbaiddkgaaGreatDoorW.PrintLast
set_option linter.unusedVariables false
set_option linter.unusedSimpArgs false
mutual
def trystref08_right.j0 : Nat → Int → Bool → ByteArray → List (S53) → List (S25) → Option (Bool)
 | 0, _, _, _, _, _ => none
 | k + 1, x1, x14, x268000, x268001, x268002 => if x14 = true then (some false) else (trystref08_right.l0 k x1 (x268001.length : Int) 0 x268000 x268001 x268002)
def trystref08_right.l0 : Nat → Int → Int → Int → ByteArray → List (S53) → List (S25) → Option (Bool)
 | 0, _, _, _, _, _, _ => none
 | k + 1, x1, x17, x18, x268000, x268001, x268002 => if x18 < x17 then (if 0 ≤ x18 then (if x18 < (x268001.length : Int) then ((trystref08_Formed.f k ((rd_T53 x268001 x18).f0) ((rd_T53 x268001 x18).f1) ((rd_T53 x268001 x18).f2)).bind fun t270 => (if t270 = true then (if ((rd_T53 x268001 x18).f0).toList = ([66, 69, 71, 73, 78] : List UInt8) then (some false) else (if ((rd_T53 x268001 x18).f0).toList = ([69, 78, 68] : List UInt8) then (some false) else (trystref08_right.l0 k x1 x17 (wrap64 (x18 + 1)) x268000 x268001 x268002))) else (some false))) else (none)) else (none)) else (trystref08_right.l1 k x1 (x268002.length : Int) 0 x268000 x268001 x268002)
def trystref08_right.l1 : Nat → Int → Int → Int → ByteArray → List (S53) → List (S25) → Option (Bool)
 | 0, _, _, _, _, _, _ => none
 | k + 1, x1, x49, x50, x268000, x268001, x268002 => if x50 < x49 then (if 0 ≤ x50 then (if x50 < (x268002.length : Int) then ((trystref08_right.f k ((rd_T25 x268002 x50).f0) ((rd_T25 x268002 x50).f1) ((rd_T25 x268002 x50).f2) (wrap64 (x1 + 1))).bind fun t274 => (if t274 = true then (trystref08_right.l1 k x1 x49 (wrap64 (x50 + 1)) x268000 x268001 x268002) else (some false))) else (none)) else (none)) else (some true)
def trystref08_right.f : Nat → ByteArray → List (S53) → List (S25) → Int → Option (Bool)
 | 0, _, _, _, _ => none
 | k + 1, a0_0, l0_1, l0_2, a1 => if a1 > 4 then (trystref08_right.j0 k a1 true a0_0 l0_1 l0_2) else ((trystref08_Name.f k a0_0).bind fun t268 => (trystref08_right.j0 k a1 (!t268) a0_0 l0_1 l0_2))
end
set_option maxHeartbeats 8000000 in
set_option maxRecDepth 100000 in
theorem trystref08_right.calls (k : Nat) : ∀ (a0_0 : ByteArray) (A0_1 : Option Addr) (c0_1 : Nat) (l0_1 : List (S53)) (A0_2 : Option Addr) (c0_2 : Nat) (l0_2 : List (S25)) (a1 : Int) (r : Bool) (w : World) (hG : GG w) (hr0_1 : Kd.C k53 w A0_1 l0_1.length l0_1) (hc0_1 : l0_1.length ≤ c0_1) (hr0_2 : Kd.C k25 w A0_2 l0_2.length l0_2) (hc0_2 : l0_2.length ≤ c0_2) (h : trystref08_right.f k a0_0 l0_1 l0_2 a1 = some r),
  Calls Tryz.prog 26 #[.agg #[.string a0_0, .slice A0_1 l0_1.length c0_1, .slice A0_2 l0_2.length c0_2], .int .i64 a1] w fun e w' => e = .returned (.bool r) ∧ Below w.heap.size w w' := by
 induction k using Nat.strongRecOn with
 | _ k ih =>
 intro a0_0 A0_1 c0_1 l0_1 A0_2 c0_2 l0_2 a1 r w hG hr0_1 hc0_1 hr0_2 hc0_2 h
 cases k with
 | zero => exact absurd h (by simp [trystref08_right.f])
 | succ k =>
 simp only [trystref08_right.f] at h; have hu25 := Tryz.underlying25; have hu53 := Tryz.underlying53; have HR0_1 := Aside0.mk hr0_1; have HC0_1 := Aside0.mk hc0_1; clear hr0_1 hc0_1; have HR0_2 := Aside0.mk hr0_2; have HC0_2 := Aside0.mk hc0_2; clear hr0_2 hc0_2; have HB := Aside0.mk (Below.refl w.heap.size w); have H : (if a1 > 4 then (trystref08_right.j0 k a1 true a0_0 l0_1 l0_2) else ((trystref08_Name.f k a0_0).bind fun t268 => (trystref08_right.j0 k a1 (!t268) a0_0 l0_1 l0_2))) = some r := h; clear h; have HC3 := Aside0.mk H; clear H
 go_enter Tryz.func26, Tryz.ntmps26
 go_upto_region 1 with (first | ((with_reducible refine gate_dst (N := 2) rfl ?_); refine zbox (N := 2) #[.string a0_0, .slice A0_1 l0_1.length c0_1, .slice A0_2 l0_2.length c0_2] 25 (fun gb267 hg w4 hbox hb => ?_); have n0_ := zw hb; have n1_ := Aside0.mk hbox; have n2_ := zg w hg; have n3_ := zg w hg; clear HB; have HB := n0_; have BK267 := n1_; have GW267 := n2_; have GE267 := n3_; clear n0_ n1_ n2_ n3_; clear hb hbox hg))
 (try simp only [Act.put, List.setIfInBounds_toArray, List.set_cons_zero, List.set_cons_succ])
 go_cut [14] (fun v14 wc => ∃ (kq : Nat) (x14_2 : Bool), v14 = .bool x14_2 ∧ Aside0 (trystref08_right.j0 kq a1 x14_2 a0_0 l0_1 l0_2 = some r) ∧ Aside0 (kq ≤ k) ∧ Aside0 (wc.heap[gb267]? = some (.cells #[.string a0_0, (.slice A0_1 l0_1.length c0_1), (.slice A0_2 l0_2.length c0_2)] 25 (0, 0))) ∧ Aside0 (Below w.heap.size w wc))
 case first =>
  have H := HC3.out; clear HC3; replace H := zI H; rcases H with ⟨c5, H⟩ | ⟨c5, H⟩
  ·have c5b0 : decide (4 < a1) = true := decide_eq_true c5; clear c5
   (first | rw [c5b0] | (simp only [i64_w, i32_w]; rw [c5b0]) | skip)
   have H' := Aside0.mk H; clear H; go_wp2
   go_meet
   case rel => exact ⟨_, (true), zS, H', ⟨by first | omega | exact Nat.le_refl _⟩, ⟨blk_below BK267.out zX⟩, ⟨zB⟩⟩
  ·have c5b0 : decide (4 < a1) = false := decide_eq_false c5; clear c5
   (first | rw [c5b0] | (simp only [i64_w, i32_w]; rw [c5b0]) | skip)
   replace H := zO H; obtain ⟨t268, A6, H⟩ := H; have H' := Aside0.mk H; clear H; have hcz7_0 := zc0 BK267; have hcz7_1 := zc1 BK267; have hcz7_2 := zc2 BK267; have hfz7_0 := zf BK267 0; have hfz7_1 := zf BK267 1; have hfz7_2 := zf BK267 2
   go_wp2_with (first | (go_at_call 47; (with_reducible refine (trystref08_Name.calls k a0_0 t268 _ zG A6.out).mono ?_); rintro e w' ⟨rfl, ⟨nd, rfl⟩⟩))
   go_meet
   case rel => exact ⟨_, (!t268), zS, H', ⟨by first | omega | exact Nat.le_refl _⟩, ⟨blk_below BK267.out zX⟩, ⟨zB⟩⟩
 case rest =>
  clear HC3; obtain ⟨kq, x14_2, rfl, HA, HJ2, BK267, HB⟩ := hcut
  cases kq with
  | zero => exact absurd HA.out (by simp [trystref08_right.j0])
  | succ kj2 =>
   have H := HA.out; clear HA; simp only [trystref08_right.j0] at H; replace H := zIb H; rcases H with ⟨rfl, H⟩ | ⟨rfl, H⟩
   ·obtain rfl := Option.some.inj H; go_wp2; go_ret; exact ⟨zE, zB⟩
   ·have H' := Aside0.mk H; clear H; have hcz9_0 := zc0 BK267; have hcz9_1 := zc1 BK267; have hcz9_2 := zc2 BK267; have hfz9_0 := zf BK267 0; have hfz9_1 := zf BK267 1; have hfz9_2 := zf BK267 2; go_wp2
    go_loopg [18] kj2 (fun kq v18 w' => ∃ (x18_2 : Int), v18 = .int .i64 x18_2 ∧ Aside0 (trystref08_right.l0 kq a1 (l0_1.length : Int) x18_2 a0_0 l0_1 l0_2 = some r) ∧ Aside0 (kq ≤ kj2) ∧ Aside0 (w'.heap[gb267]? = some (.cells #[.string a0_0, (.slice A0_1 l0_1.length c0_1), (.slice A0_2 l0_2.length c0_2)] 25 (0, 0))) ∧ Aside0 (Below w.heap.size w w'))
    case atStart => exact ⟨(0), zS, H', ⟨Nat.le_refl _⟩, ⟨blk_below BK267.out zX⟩, ⟨zB⟩⟩
    case round =>
     clear H'; clear hcz9_0 hcz9_1 hcz9_2 hfz9_0 hfz9_1 hfz9_2; obtain ⟨x18_2, rfl, HA, HK2, BK267, HB⟩ := hrel
     cases gk with
     | zero => exact absurd HA.out (by simp [trystref08_right.l0])
     | succ k2 =>
      have H := HA.out; clear HA; simp only [trystref08_right.l0] at H; replace H := zId H; rcases H with ⟨-, c10b0, H⟩ | ⟨-, c10b0, H⟩
      ·replace H := zJd H; obtain ⟨-, c11b0, H⟩ := H; replace H := zJd H; obtain ⟨-, c12b0, H⟩ := H; replace H := zO H; obtain ⟨t270, A13, H⟩ := H; replace H := zIb H; rcases H with ⟨rfl, H⟩ | ⟨rfl, H⟩
       ·replace H := zIe H; rcases H with ⟨-, c15b0, c15b1, H⟩ | ⟨c15, c15b0, c15b1, H⟩
        ·obtain rfl := Option.some.inj H; have hcz16_0 := zc0 BK267; have hcz16_1 := zc1 BK267; have hcz16_2 := zc2 BK267; have hfz16_0 := zf BK267 0; have hfz16_1 := zf BK267 1; have hfz16_2 := zf BK267 2; have p269 := zQ (0 ≤ (x18_2 : Int)); have q269 := zQ (x18_2 < (l0_1.length : Int)); obtain ⟨ad269, A269_1, c269_1, e269, hx269_0, hx269_1, hx269_2, hl269_1, hi269_1⟩ := at_T53 HR0_1.out x18_2 p269 q269
         cases e269
         replace hx269_0 := zx HB hx269_0; replace hx269_1 := zx HB hx269_1; replace hx269_2 := zx HB hx269_2; have HR269_1 := Aside0.mk hi269_1; have HC269_1 := Aside0.mk hl269_1; clear hi269_1 hl269_1; replace p269 := eq_true p269; replace q269 := eq_true q269
         go_wp2_with (first | ((with_reducible refine gate_callee (f := 48) rfl ?_); refine goesL_ (some 26) rfl rfl Tryz.func48 (by kernel_rfl) rfl #[.agg #[.string ((rd_T53 l0_1 x18_2).f0), .slice A269_1 ((rd_T53 l0_1 x18_2).f1).length c269_1, .string ((rd_T53 l0_1 x18_2).f2)]] rfl zA ?_; (with_reducible refine (trystref08_Formed.calls k2 ((rd_T53 l0_1 x18_2).f0) _ _ ((rd_T53 l0_1 x18_2).f1) ((rd_T53 l0_1 x18_2).f2) true _ zG ?side1 ?side2 A13.out).mono ?_); (case side1 => exact Kd.C_below (Kd.C_below HR269_1.out HB.out) zX); (case side2 => exact HC269_1.out); rintro e w17 ⟨rfl, hb⟩; refine ⟨_, rfl, ?_⟩; replace BK267 := zb BK267 hb; replace HB := zw hb; (try clear hb); have hcz18_0 := zc0 BK267; have hcz18_1 := zc1 BK267; have hcz18_2 := zc2 BK267; have hfz18_0 := zf BK267 0; have hfz18_1 := zf BK267 1; have hfz18_2 := zf BK267 2; have p271 : 0 ≤ (x18_2 : Int) := of_decide_eq_true (by first | (with_reducible assumption) | assumption); have q271 : x18_2 < (l0_1.length : Int) := of_decide_eq_true (by first | (with_reducible assumption) | assumption); obtain ⟨ad271, A271_1, c271_1, e271, hx271_0, hx271_1, hx271_2, hl271_1, hi271_1⟩ := at_T53 HR0_1.out x18_2 p271 q271; obtain rfl : ad269 = ad271 := (by injection e271); replace hx271_0 := zx HB hx271_0; replace hx271_1 := zx HB hx271_1; replace hx271_2 := zx HB hx271_2; have HR271_1 := Aside0.mk hi271_1; have HC271_1 := Aside0.mk hl271_1; clear hi271_1 hl271_1; replace p271 := eq_true p271; replace q271 := eq_true q271))
         go_ret; exact ⟨zE, zB⟩
        ·replace H := zIe H; rcases H with ⟨-, c19b0, c19b1, H⟩ | ⟨c19, c19b0, c19b1, H⟩
         ·obtain rfl := Option.some.inj H; have hcz20_0 := zc0 BK267; have hcz20_1 := zc1 BK267; have hcz20_2 := zc2 BK267; have hfz20_0 := zf BK267 0; have hfz20_1 := zf BK267 1; have hfz20_2 := zf BK267 2; have p269 := zQ (0 ≤ (x18_2 : Int)); have q269 := zQ (x18_2 < (l0_1.length : Int)); obtain ⟨ad269, A269_1, c269_1, e269, hx269_0, hx269_1, hx269_2, hl269_1, hi269_1⟩ := at_T53 HR0_1.out x18_2 p269 q269
          cases e269
          replace hx269_0 := zx HB hx269_0; replace hx269_1 := zx HB hx269_1; replace hx269_2 := zx HB hx269_2; have HR269_1 := Aside0.mk hi269_1; have HC269_1 := Aside0.mk hl269_1; clear hi269_1 hl269_1; replace p269 := eq_true p269; replace q269 := eq_true q269
          go_wp2_with (first | ((with_reducible refine gate_callee (f := 48) rfl ?_); refine goesL_ (some 26) rfl rfl Tryz.func48 (by kernel_rfl) rfl #[.agg #[.string ((rd_T53 l0_1 x18_2).f0), .slice A269_1 ((rd_T53 l0_1 x18_2).f1).length c269_1, .string ((rd_T53 l0_1 x18_2).f2)]] rfl zA ?_; (with_reducible refine (trystref08_Formed.calls k2 ((rd_T53 l0_1 x18_2).f0) _ _ ((rd_T53 l0_1 x18_2).f1) ((rd_T53 l0_1 x18_2).f2) true _ zG ?side1 ?side2 A13.out).mono ?_); (case side1 => exact Kd.C_below (Kd.C_below HR269_1.out HB.out) zX); (case side2 => exact HC269_1.out); rintro e w21 ⟨rfl, hb⟩; refine ⟨_, rfl, ?_⟩; replace BK267 := zb BK267 hb; replace HB := zw hb; (try clear hb); have hcz22_0 := zc0 BK267; have hcz22_1 := zc1 BK267; have hcz22_2 := zc2 BK267; have hfz22_0 := zf BK267 0; have hfz22_1 := zf BK267 1; have hfz22_2 := zf BK267 2; have p271 : 0 ≤ (x18_2 : Int) := of_decide_eq_true (by first | (with_reducible assumption) | assumption); have q271 : x18_2 < (l0_1.length : Int) := of_decide_eq_true (by first | (with_reducible assumption) | assumption); obtain ⟨ad271, A271_1, c271_1, e271, hx271_0, hx271_1, hx271_2, hl271_1, hi271_1⟩ := at_T53 HR0_1.out x18_2 p271 q271; obtain rfl : ad269 = ad271 := (by injection e271); replace hx271_0 := zx HB hx271_0; replace hx271_1 := zx HB hx271_1; replace hx271_2 := zx HB hx271_2; have HR271_1 := Aside0.mk hi271_1; have HC271_1 := Aside0.mk hl271_1; clear hi271_1 hl271_1; replace p271 := eq_true p271; replace q271 := eq_true q271; have p272 : 0 ≤ (x18_2 : Int) := of_decide_eq_true (by first | (with_reducible assumption) | assumption); have q272 : x18_2 < (l0_1.length : Int) := of_decide_eq_true (by first | (with_reducible assumption) | assumption); obtain ⟨ad272, A272_1, c272_1, e272, hx272_0, hx272_1, hx272_2, hl272_1, hi272_1⟩ := at_T53 HR0_1.out x18_2 p272 q272; obtain rfl : ad269 = ad272 := (by injection e272); replace hx272_0 := zx HB hx272_0; replace hx272_1 := zx HB hx272_1; replace hx272_2 := zx HB hx272_2; have HR272_1 := Aside0.mk hi272_1; have HC272_1 := Aside0.mk hl272_1; clear hi272_1 hl272_1; replace p272 := eq_true p272; replace q272 := eq_true q272; have ea_ := Option.some.inj (hx271_1.symm.trans hx272_1); injection ea_ with ea_ en_ ec_; subst ea_; subst ec_; clear en_))
          go_ret; exact ⟨zE, zB⟩
         ·have H' := Aside0.mk H; clear H; have hcz23_0 := zc0 BK267; have hcz23_1 := zc1 BK267; have hcz23_2 := zc2 BK267; have hfz23_0 := zf BK267 0; have hfz23_1 := zf BK267 1; have hfz23_2 := zf BK267 2; have p269 := zQ (0 ≤ (x18_2 : Int)); have q269 := zQ (x18_2 < (l0_1.length : Int)); obtain ⟨ad269, A269_1, c269_1, e269, hx269_0, hx269_1, hx269_2, hl269_1, hi269_1⟩ := at_T53 HR0_1.out x18_2 p269 q269
          cases e269
          replace hx269_0 := zx HB hx269_0; replace hx269_1 := zx HB hx269_1; replace hx269_2 := zx HB hx269_2; have HR269_1 := Aside0.mk hi269_1; have HC269_1 := Aside0.mk hl269_1; clear hi269_1 hl269_1; replace p269 := eq_true p269; replace q269 := eq_true q269
          go_wp2_with (first | ((with_reducible refine gate_callee (f := 48) rfl ?_); refine goesL_ (some 26) rfl rfl Tryz.func48 (by kernel_rfl) rfl #[.agg #[.string ((rd_T53 l0_1 x18_2).f0), .slice A269_1 ((rd_T53 l0_1 x18_2).f1).length c269_1, .string ((rd_T53 l0_1 x18_2).f2)]] rfl zA ?_; (with_reducible refine (trystref08_Formed.calls k2 ((rd_T53 l0_1 x18_2).f0) _ _ ((rd_T53 l0_1 x18_2).f1) ((rd_T53 l0_1 x18_2).f2) true _ zG ?side1 ?side2 A13.out).mono ?_); (case side1 => exact Kd.C_below (Kd.C_below HR269_1.out HB.out) zX); (case side2 => exact HC269_1.out); rintro e w24 ⟨rfl, hb⟩; refine ⟨_, rfl, ?_⟩; replace BK267 := zb BK267 hb; replace HB := zw hb; (try clear hb); have hcz25_0 := zc0 BK267; have hcz25_1 := zc1 BK267; have hcz25_2 := zc2 BK267; have hfz25_0 := zf BK267 0; have hfz25_1 := zf BK267 1; have hfz25_2 := zf BK267 2; have p271 : 0 ≤ (x18_2 : Int) := of_decide_eq_true (by first | (with_reducible assumption) | assumption); have q271 : x18_2 < (l0_1.length : Int) := of_decide_eq_true (by first | (with_reducible assumption) | assumption); obtain ⟨ad271, A271_1, c271_1, e271, hx271_0, hx271_1, hx271_2, hl271_1, hi271_1⟩ := at_T53 HR0_1.out x18_2 p271 q271; obtain rfl : ad269 = ad271 := (by injection e271); replace hx271_0 := zx HB hx271_0; replace hx271_1 := zx HB hx271_1; replace hx271_2 := zx HB hx271_2; have HR271_1 := Aside0.mk hi271_1; have HC271_1 := Aside0.mk hl271_1; clear hi271_1 hl271_1; replace p271 := eq_true p271; replace q271 := eq_true q271; have p272 : 0 ≤ (x18_2 : Int) := of_decide_eq_true (by first | (with_reducible assumption) | assumption); have q272 : x18_2 < (l0_1.length : Int) := of_decide_eq_true (by first | (with_reducible assumption) | assumption); obtain ⟨ad272, A272_1, c272_1, e272, hx272_0, hx272_1, hx272_2, hl272_1, hi272_1⟩ := at_T53 HR0_1.out x18_2 p272 q272; obtain rfl : ad269 = ad272 := (by injection e272); replace hx272_0 := zx HB hx272_0; replace hx272_1 := zx HB hx272_1; replace hx272_2 := zx HB hx272_2; have HR272_1 := Aside0.mk hi272_1; have HC272_1 := Aside0.mk hl272_1; clear hi272_1 hl272_1; replace p272 := eq_true p272; replace q272 := eq_true q272; have ea_ := Option.some.inj (hx271_1.symm.trans hx272_1); injection ea_ with ea_ en_ ec_; subst ea_; subst ec_; clear en_))
          go_roundg k2
          case measure => have := HJ2.out; have := HK2.out; omega
          case rel => exact ⟨(wrap64 (x18_2 + 1)), zS, H', ⟨by have := HJ2.out; have := HK2.out; omega⟩, ⟨blk_below BK267.out zX⟩, ⟨zB⟩⟩
       ·obtain rfl := Option.some.inj H; have hcz26_0 := zc0 BK267; have hcz26_1 := zc1 BK267; have hcz26_2 := zc2 BK267; have hfz26_0 := zf BK267 0; have hfz26_1 := zf BK267 1; have hfz26_2 := zf BK267 2; have p269 := zQ (0 ≤ (x18_2 : Int)); have q269 := zQ (x18_2 < (l0_1.length : Int)); obtain ⟨ad269, A269_1, c269_1, e269, hx269_0, hx269_1, hx269_2, hl269_1, hi269_1⟩ := at_T53 HR0_1.out x18_2 p269 q269
        cases e269
        replace hx269_0 := zx HB hx269_0; replace hx269_1 := zx HB hx269_1; replace hx269_2 := zx HB hx269_2; have HR269_1 := Aside0.mk hi269_1; have HC269_1 := Aside0.mk hl269_1; clear hi269_1 hl269_1; replace p269 := eq_true p269; replace q269 := eq_true q269
        go_wp2_with (first | ((with_reducible refine gate_callee (f := 48) rfl ?_); refine goesL_ (some 26) rfl rfl Tryz.func48 (by kernel_rfl) rfl #[.agg #[.string ((rd_T53 l0_1 x18_2).f0), .slice A269_1 ((rd_T53 l0_1 x18_2).f1).length c269_1, .string ((rd_T53 l0_1 x18_2).f2)]] rfl zA ?_; (with_reducible refine (trystref08_Formed.calls k2 ((rd_T53 l0_1 x18_2).f0) _ _ ((rd_T53 l0_1 x18_2).f1) ((rd_T53 l0_1 x18_2).f2) false _ zG ?side1 ?side2 A13.out).mono ?_); (case side1 => exact Kd.C_below (Kd.C_below HR269_1.out HB.out) zX); (case side2 => exact HC269_1.out); rintro e w27 ⟨rfl, hb⟩; refine ⟨_, rfl, ?_⟩; replace BK267 := zb BK267 hb; replace HB := zw hb; (try clear hb)))
        go_ret; exact ⟨zE, zB⟩
      ·have H' := Aside0.mk H; clear H; have hcz28_0 := zc0 BK267; have hcz28_1 := zc1 BK267; have hcz28_2 := zc2 BK267; have hfz28_0 := zf BK267 0; have hfz28_1 := zf BK267 1; have hfz28_2 := zf BK267 2; go_wp2
       go_loopg [50] k2 (fun kq v50 w' => ∃ (x50_3 : Int), v50 = .int .i64 x50_3 ∧ Aside0 (trystref08_right.l1 kq a1 (l0_2.length : Int) x50_3 a0_0 l0_1 l0_2 = some r) ∧ Aside0 (kq ≤ k2) ∧ Aside0 (w'.heap[gb267]? = some (.cells #[.string a0_0, (.slice A0_1 l0_1.length c0_1), (.slice A0_2 l0_2.length c0_2)] 25 (0, 0))) ∧ Aside0 (Below w.heap.size w w'))
       case atStart => exact ⟨(0), zS, H', ⟨Nat.le_refl _⟩, ⟨blk_below BK267.out zX⟩, ⟨zB⟩⟩
       case round =>
        clear H'; clear c10b0 hcz28_0 hcz28_1 hcz28_2 hfz28_0 hfz28_1 hfz28_2; obtain ⟨x50_3, rfl, HA, HK3, BK267, HB⟩ := hrel
        cases gk with
        | zero => exact absurd HA.out (by simp [trystref08_right.l1])
        | succ k3 =>
         have H := HA.out; clear HA; simp only [trystref08_right.l1] at H; replace H := zId H; rcases H with ⟨-, c29b0, H⟩ | ⟨-, c29b0, H⟩
         ·replace H := zJd H; obtain ⟨-, c30b0, H⟩ := H; replace H := zJd H; obtain ⟨-, c31b0, H⟩ := H; replace H := zO H; obtain ⟨t274, A32, H⟩ := H; replace H := zIb H; rcases H with ⟨rfl, H⟩ | ⟨rfl, H⟩
          ·have H' := Aside0.mk H; clear H; have hcz34_0 := zc0 BK267; have hcz34_1 := zc1 BK267; have hcz34_2 := zc2 BK267; have hfz34_0 := zf BK267 0; have hfz34_1 := zf BK267 1; have hfz34_2 := zf BK267 2; have p273 := zQ (0 ≤ (x50_3 : Int)); have q273 := zQ (x50_3 < (l0_2.length : Int)); obtain ⟨ad273, A273_1, c273_1, A273_2, c273_2, e273, hx273_0, hx273_1, hx273_2, hl273_1, hi273_1, hl273_2, hi273_2⟩ := at_T25 HR0_2.out x50_3 p273 q273
           cases e273
           replace hx273_0 := zx HB hx273_0; replace hx273_1 := zx HB hx273_1; replace hx273_2 := zx HB hx273_2; have HR273_1 := Aside0.mk hi273_1; have HC273_1 := Aside0.mk hl273_1; clear hi273_1 hl273_1; have HR273_2 := Aside0.mk hi273_2; have HC273_2 := Aside0.mk hl273_2; clear hi273_2 hl273_2; replace p273 := eq_true p273; replace q273 := eq_true q273
           go_wp2_with (first | ((with_reducible refine gate_callee (f := 26) rfl ?_); refine goesL_ (some 60) rfl rfl Tryz.func26 (by kernel_rfl) rfl #[.agg #[.string ((rd_T25 l0_2 x50_3).f0), .slice A273_1 ((rd_T25 l0_2 x50_3).f1).length c273_1, .slice A273_2 ((rd_T25 l0_2 x50_3).f2).length c273_2], .int .i64 (wrap64 (a1 + 1))] rfl zA ?_; (with_reducible refine (ih k3 (by have := HJ2.out; have := HK2.out; have := HK3.out; omega) ((rd_T25 l0_2 x50_3).f0) _ _ ((rd_T25 l0_2 x50_3).f1) _ _ ((rd_T25 l0_2 x50_3).f2) (wrap64 (a1 + 1)) true _ zG ?side1 ?side2 ?side3 ?side4 A32.out).mono ?_); (case side1 => exact Kd.C_below (Kd.C_below HR273_1.out HB.out) zX); (case side2 => exact HC273_1.out); (case side3 => exact Kd.C_below (Kd.C_below HR273_2.out HB.out) zX); (case side4 => exact HC273_2.out); rintro e w35 ⟨rfl, hb⟩; refine ⟨_, rfl, ?_⟩; replace BK267 := zb BK267 hb; replace HB := zw hb; (try clear hb)))
           go_roundg k3
           case measure => have := HJ2.out; have := HK2.out; have := HK3.out; omega
           case rel => exact ⟨(wrap64 (x50_3 + 1)), zS, H', ⟨by have := HJ2.out; have := HK2.out; have := HK3.out; omega⟩, ⟨blk_below BK267.out zX⟩, ⟨zB⟩⟩
          ·obtain rfl := Option.some.inj H; have hcz36_0 := zc0 BK267; have hcz36_1 := zc1 BK267; have hcz36_2 := zc2 BK267; have hfz36_0 := zf BK267 0; have hfz36_1 := zf BK267 1; have hfz36_2 := zf BK267 2; have p273 := zQ (0 ≤ (x50_3 : Int)); have q273 := zQ (x50_3 < (l0_2.length : Int)); obtain ⟨ad273, A273_1, c273_1, A273_2, c273_2, e273, hx273_0, hx273_1, hx273_2, hl273_1, hi273_1, hl273_2, hi273_2⟩ := at_T25 HR0_2.out x50_3 p273 q273
           cases e273
           replace hx273_0 := zx HB hx273_0; replace hx273_1 := zx HB hx273_1; replace hx273_2 := zx HB hx273_2; have HR273_1 := Aside0.mk hi273_1; have HC273_1 := Aside0.mk hl273_1; clear hi273_1 hl273_1; have HR273_2 := Aside0.mk hi273_2; have HC273_2 := Aside0.mk hl273_2; clear hi273_2 hl273_2; replace p273 := eq_true p273; replace q273 := eq_true q273
           go_wp2_with (first | ((with_reducible refine gate_callee (f := 26) rfl ?_); refine goesL_ (some 60) rfl rfl Tryz.func26 (by kernel_rfl) rfl #[.agg #[.string ((rd_T25 l0_2 x50_3).f0), .slice A273_1 ((rd_T25 l0_2 x50_3).f1).length c273_1, .slice A273_2 ((rd_T25 l0_2 x50_3).f2).length c273_2], .int .i64 (wrap64 (a1 + 1))] rfl zA ?_; (with_reducible refine (ih k3 (by have := HJ2.out; have := HK2.out; have := HK3.out; omega) ((rd_T25 l0_2 x50_3).f0) _ _ ((rd_T25 l0_2 x50_3).f1) _ _ ((rd_T25 l0_2 x50_3).f2) (wrap64 (a1 + 1)) false _ zG ?side1 ?side2 ?side3 ?side4 A32.out).mono ?_); (case side1 => exact Kd.C_below (Kd.C_below HR273_1.out HB.out) zX); (case side2 => exact HC273_1.out); (case side3 => exact Kd.C_below (Kd.C_below HR273_2.out HB.out) zX); (case side4 => exact HC273_2.out); rintro e w37 ⟨rfl, hb⟩; refine ⟨_, rfl, ?_⟩; replace BK267 := zb BK267 hb; replace HB := zw hb; (try clear hb)))
           go_ret; exact ⟨zE, zB⟩
         ·obtain rfl := Option.some.inj H; go_wp2; go_ret; exact ⟨zE, zB⟩
def trystref08_FormedTree.f (k : Nat) (a0_0 : ByteArray) (l0_1 : List (S53)) (l0_2 : List (S25)) : Option (Bool) := (trystref08_right.f k a0_0 l0_1 l0_2 1).bind fun t276 => (if t276 = true then ((trystref08_Count.f k a0_0 l0_1 l0_2).bind fun t277 => (some (decide (t277 ≤ 300)))) else (some false))
set_option maxHeartbeats 8000000 in
set_option maxRecDepth 100000 in
theorem trystref08_FormedTree.calls (k : Nat) (a0_0 : ByteArray) (A0_1 : Option Addr) (c0_1 : Nat) (l0_1 : List (S53)) (A0_2 : Option Addr) (c0_2 : Nat) (l0_2 : List (S25)) (r : Bool) (w : World) (hG : GG w) (hr0_1 : Kd.C k53 w A0_1 l0_1.length l0_1) (hc0_1 : l0_1.length ≤ c0_1) (hr0_2 : Kd.C k25 w A0_2 l0_2.length l0_2) (hc0_2 : l0_2.length ≤ c0_2) (h : trystref08_FormedTree.f k a0_0 l0_1 l0_2 = some r) :
  Calls Tryz.prog 12 #[.agg #[.string a0_0, .slice A0_1 l0_1.length c0_1, .slice A0_2 l0_2.length c0_2]] w fun e w' => e = .returned (.bool r) ∧ Below w.heap.size w w' := by
 have hu25 := Tryz.underlying25; have HR0_1 := Aside0.mk hr0_1; have HC0_1 := Aside0.mk hc0_1; clear hr0_1 hc0_1; have HR0_2 := Aside0.mk hr0_2; have HC0_2 := Aside0.mk hc0_2; clear hr0_2 hc0_2; have HB := Aside0.mk (Below.refl w.heap.size w); have H : ((trystref08_right.f k a0_0 l0_1 l0_2 1).bind fun t276 => (if t276 = true then ((trystref08_Count.f k a0_0 l0_1 l0_2).bind fun t277 => (some (decide (t277 ≤ 300)))) else (some false))) = some r := h; clear h; replace H := zO H; obtain ⟨t276, A2, H⟩ := H; replace H := zIb H; rcases H with ⟨rfl, H⟩ | ⟨rfl, H⟩
 ·replace H := zO H; obtain ⟨t277, A4, H⟩ := H; obtain rfl := Option.some.inj H
  go_enter Tryz.func12, Tryz.ntmps12
  go_wp2_with (first | ((with_reducible refine gate_dst (N := 1) rfl ?_); refine zbox (N := 1) #[.string a0_0, .slice A0_1 l0_1.length c0_1, .slice A0_2 l0_2.length c0_2] 25 (fun gb275 hg w5 hbox hb => ?_); have n0_ := zw hb; have n1_ := Aside0.mk hbox; have n2_ := zg w hg; have n3_ := zg w hg; clear HB; have HB := n0_; have BK275 := n1_; have GW275 := n2_; have GE275 := n3_; clear n0_ n1_ n2_ n3_; clear hb hbox hg; have hcz6_0 := zc0 BK275; have hcz6_1 := zc1 BK275; have hcz6_2 := zc2 BK275; have hfz6_0 := zf BK275 0; have hfz6_1 := zf BK275 1; have hfz6_2 := zf BK275 2) | ((with_reducible refine gate_callee (f := 26) rfl ?_); refine goesL_ (some 4) rfl rfl Tryz.func26 (by kernel_rfl) rfl #[.agg #[.string a0_0, .slice A0_1 l0_1.length c0_1, .slice A0_2 l0_2.length c0_2], .int .i64 1] rfl zA ?_; (with_reducible refine (trystref08_right.calls k a0_0 _ _ l0_1 _ _ l0_2 1 true _ zG ?side1 ?side2 ?side3 ?side4 A2.out).mono ?_); (case side1 => exact Kd.C_below (Kd.C_below HR0_1.out HB.out) zX); (case side2 => exact HC0_1.out); (case side3 => exact Kd.C_below (Kd.C_below HR0_2.out HB.out) zX); (case side4 => exact HC0_2.out); rintro e w7 ⟨rfl, hb⟩; refine ⟨_, rfl, ?_⟩; replace BK275 := zb BK275 hb; replace HB := zw hb; (try clear hb); have hcz8_0 := zc0 BK275; have hcz8_1 := zc1 BK275; have hcz8_2 := zc2 BK275; have hfz8_0 := zf BK275 0; have hfz8_1 := zf BK275 1; have hfz8_2 := zf BK275 2) | (go_at_call 14; (with_reducible refine (trystref08_Count.calls k a0_0 _ _ l0_1 _ _ l0_2 t277 _ zG ?side1 ?side2 ?side3 ?side4 A4.out).mono ?_); (case side1 => exact Kd.C_below (Kd.C_below HR0_1.out HB.out) zX); (case side2 => exact HC0_1.out); (case side3 => exact Kd.C_below (Kd.C_below HR0_2.out HB.out) zX); (case side4 => exact HC0_2.out); rintro e w9 ⟨rfl, hb⟩; replace BK275 := zb BK275 hb; replace HB := zw hb; (try clear hb)))
  go_ret; exact ⟨zE, zB⟩
 ·obtain rfl := Option.some.inj H
  go_enter Tryz.func12, Tryz.ntmps12
  go_wp2_with (first | ((with_reducible refine gate_dst (N := 1) rfl ?_); refine zbox (N := 1) #[.string a0_0, .slice A0_1 l0_1.length c0_1, .slice A0_2 l0_2.length c0_2] 25 (fun gb275 hg w10 hbox hb => ?_); have n0_ := zw hb; have n1_ := Aside0.mk hbox; have n2_ := zg w hg; have n3_ := zg w hg; clear HB; have HB := n0_; have BK275 := n1_; have GW275 := n2_; have GE275 := n3_; clear n0_ n1_ n2_ n3_; clear hb hbox hg; have hcz11_0 := zc0 BK275; have hcz11_1 := zc1 BK275; have hcz11_2 := zc2 BK275; have hfz11_0 := zf BK275 0; have hfz11_1 := zf BK275 1; have hfz11_2 := zf BK275 2) | ((with_reducible refine gate_callee (f := 26) rfl ?_); refine goesL_ (some 4) rfl rfl Tryz.func26 (by kernel_rfl) rfl #[.agg #[.string a0_0, .slice A0_1 l0_1.length c0_1, .slice A0_2 l0_2.length c0_2], .int .i64 1] rfl zA ?_; (with_reducible refine (trystref08_right.calls k a0_0 _ _ l0_1 _ _ l0_2 1 false _ zG ?side1 ?side2 ?side3 ?side4 A2.out).mono ?_); (case side1 => exact Kd.C_below (Kd.C_below HR0_1.out HB.out) zX); (case side2 => exact HC0_1.out); (case side3 => exact Kd.C_below (Kd.C_below HR0_2.out HB.out) zX); (case side4 => exact HC0_2.out); rintro e w12 ⟨rfl, hb⟩; refine ⟨_, rfl, ?_⟩; replace BK275 := zb BK275 hb; replace HB := zw hb; (try clear hb)))
  go_ret; exact ⟨zE, zB⟩
end Go.Proofs.YtdojmdbaiddkgaaGreatDoor.Print
end
section
namespace Go.Proofs.YtdojmdbaiddkgaaGreatDoor.Print
open Go.RowKit Go.Proofs.YtdojmdbaiddkgaaGreatDoorW.PrintWords Go.Proofs.YtdojmdbaiddkgaaGreatDoorW.PrintLast
set_option linter.unusedVariables false
set_option linter.unusedSimpArgs false
def trystref08_PrintTree.f (k : Nat) (a0_0 : ByteArray) (l0_1 : List (S53)) (l0_2 : List (S25)) : Option (ByteArray × Int) := (trystref08_FormedTree.f k a0_0 l0_1 l0_2).bind fun t361 => (if t361 = true then ((trystref08_Lines.f k a0_0 l0_1 l0_2).bind fun bt362 => (if bt362.2 = 0 then ((trystref08_Fold.f k bt362.1).bind fun bt366 => (some (bt366.1, bt366.2))) else (some ((⟨#[]⟩ : ByteArray), bt362.2)))) else (some ((⟨#[]⟩ : ByteArray), 1)))
set_option maxHeartbeats 8000000 in
set_option maxRecDepth 100000 in
theorem trystref08_PrintTree.calls (k : Nat) (a0_0 : ByteArray) (A0_1 : Option Addr) (c0_1 : Nat) (l0_1 : List (S53)) (A0_2 : Option Addr) (c0_2 : Nat) (l0_2 : List (S25)) (r1 : ByteArray) (r2 : Int) (w : World) (hG : GG w) (hr0_1 : Kd.C k53 w A0_1 l0_1.length l0_1) (hc0_1 : l0_1.length ≤ c0_1) (hr0_2 : Kd.C k25 w A0_2 l0_2.length l0_2) (hc0_2 : l0_2.length ≤ c0_2) (h : trystref08_PrintTree.f k a0_0 l0_1 l0_2 = some (r1, r2)) :
  Calls Tryz.prog 10 #[.agg #[.string a0_0, .slice A0_1 l0_1.length c0_1, .slice A0_2 l0_2.length c0_2]] w fun e w' => e = .returned (.tuple #[.string r1, .int .i64 r2]) ∧ Below w.heap.size w w' := by
 have hu25 := Tryz.underlying25; have HR0_1 := Aside0.mk hr0_1; have HC0_1 := Aside0.mk hc0_1; clear hr0_1 hc0_1; have HR0_2 := Aside0.mk hr0_2; have HC0_2 := Aside0.mk hc0_2; clear hr0_2 hc0_2; have HB := Aside0.mk (Below.refl w.heap.size w); have H : ((trystref08_FormedTree.f k a0_0 l0_1 l0_2).bind fun t361 => (if t361 = true then ((trystref08_Lines.f k a0_0 l0_1 l0_2).bind fun bt362 => (if bt362.2 = 0 then ((trystref08_Fold.f k bt362.1).bind fun bt366 => (some (bt366.1, bt366.2))) else (some ((⟨#[]⟩ : ByteArray), bt362.2)))) else (some ((⟨#[]⟩ : ByteArray), 1)))) = some (r1, r2) := h; clear h; replace H := zO H; obtain ⟨t361, A2, H⟩ := H; replace H := zIb H; rcases H with ⟨rfl, H⟩ | ⟨rfl, H⟩
 ·replace H := Option.bind_eq_some_iff.mp H; obtain ⟨⟨t362, t365⟩, A40, H⟩ := H; replace H : (if t365 = 0 then ((trystref08_Fold.f k t362).bind fun bt366 => (some (bt366.1, bt366.2))) else (some ((⟨#[]⟩ : ByteArray), t365))) = some (r1, r2) := H; have A4 := Aside0.mk A40; clear A40; replace H := zIe H; rcases H with ⟨-, c5b0, c5b1, H⟩ | ⟨c5, c5b0, c5b1, H⟩
  ·replace H := Option.bind_eq_some_iff.mp H; obtain ⟨⟨t366, t367⟩, A60, H⟩ := H; replace H : (some (t366, t367)) = some (r1, r2) := H; have A6 := Aside0.mk A60; clear A60; simp only [Option.some.injEq, Prod.mk.injEq] at H; obtain ⟨rfl, rfl⟩ := H
   go_enter Tryz.func10, Tryz.ntmps10
   go_wp2_with (first | ((with_reducible refine gate_dst (N := 1) rfl ?_); refine zbox (N := 1) #[.string a0_0, .slice A0_1 l0_1.length c0_1, .slice A0_2 l0_2.length c0_2] 25 (fun gb360 hg w7 hbox hb => ?_); have n0_ := zw hb; have n1_ := Aside0.mk hbox; have n2_ := zg w hg; have n3_ := zg w hg; clear HB; have HB := n0_; have BK360 := n1_; have GW360 := n2_; have GE360 := n3_; clear n0_ n1_ n2_ n3_; clear hb hbox hg; have hcz8_0 := zc0 BK360; have hcz8_1 := zc1 BK360; have hcz8_2 := zc2 BK360; have hfz8_0 := zf BK360 0; have hfz8_1 := zf BK360 1; have hfz8_2 := zf BK360 2) | ((with_reducible refine gate_callee (f := 12) rfl ?_); refine goesL_ (some 7) rfl rfl Tryz.func12 (by kernel_rfl) rfl #[.agg #[.string a0_0, .slice A0_1 l0_1.length c0_1, .slice A0_2 l0_2.length c0_2]] rfl zA ?_; (with_reducible refine (trystref08_FormedTree.calls k a0_0 _ _ l0_1 _ _ l0_2 true _ zG ?side1 ?side2 ?side3 ?side4 A2.out).mono ?_); (case side1 => exact Kd.C_below (Kd.C_below HR0_1.out HB.out) zX); (case side2 => exact HC0_1.out); (case side3 => exact Kd.C_below (Kd.C_below HR0_2.out HB.out) zX); (case side4 => exact HC0_2.out); rintro e w9 ⟨rfl, hb⟩; refine ⟨_, rfl, ?_⟩; replace BK360 := zb BK360 hb; replace HB := zw hb; (try clear hb); have hcz10_0 := zc0 BK360; have hcz10_1 := zc1 BK360; have hcz10_2 := zc2 BK360; have hfz10_0 := zf BK360 0; have hfz10_1 := zf BK360 1; have hfz10_2 := zf BK360 2) | ((with_reducible refine gate_callee (f := 23) rfl ?_); refine goesL_ (some 11) rfl rfl Tryz.func23 (by kernel_rfl) rfl #[.agg #[.string a0_0, .slice A0_1 l0_1.length c0_1, .slice A0_2 l0_2.length c0_2]] rfl zA ?_; (with_reducible refine (trystref08_Lines.calls k a0_0 _ _ l0_1 _ _ l0_2 t362 t365 _ zG ?side1 ?side2 ?side3 ?side4 A4.out).mono ?_); (case side1 => exact Kd.C_below (Kd.C_below HR0_1.out HB.out) zX); (case side2 => exact HC0_1.out); (case side3 => exact Kd.C_below (Kd.C_below HR0_2.out HB.out) zX); (case side4 => exact HC0_2.out); rintro e w11 ⟨v363, rfl, ho0, hb⟩; refine ⟨_, rfl, ?_⟩; replace HO364 := Aside0.mk (Kd.R_lower ho0 (below_size zB)); replace BK360 := zb BK360 hb; replace HB := zw hb; (try clear hb); (try clear ho0); obtain ⟨Ao12, co12, eo12⟩ := Kd.R_slice HO364.out; subst eo12) | ((with_reducible refine gate_callee (f := 24) rfl ?_); refine goesL_ (some 18) rfl rfl Tryz.func24 (by kernel_rfl) rfl #[.slice Ao12 t362.length co12] rfl zA ?_; (with_reducible refine (trystref08_Fold.calls k _ _ t362 t366 t367 _ zG ?side1 ?side2 A6.out).mono ?_); (case side1 => exact Kd.C_below (Kd.R_reads' HO364.out).2.2 zX); (case side2 => exact (Kd.R_reads' HO364.out).2.1); rintro e w13 ⟨rfl, hb⟩; refine ⟨_, rfl, ?_⟩; replace HO364 := Aside0.mk (Kd.R_below (Kd.R_below HO364.out zX) hb); replace BK360 := zb BK360 hb; replace HB := zw hb; (try clear hb)))
   go_ret2; exact ⟨zE, zB⟩
  ·simp only [Option.some.injEq, Prod.mk.injEq] at H; obtain ⟨rfl, rfl⟩ := H
   go_enter Tryz.func10, Tryz.ntmps10
   go_wp2_with (first | ((with_reducible refine gate_dst (N := 1) rfl ?_); refine zbox (N := 1) #[.string a0_0, .slice A0_1 l0_1.length c0_1, .slice A0_2 l0_2.length c0_2] 25 (fun gb360 hg w14 hbox hb => ?_); have n0_ := zw hb; have n1_ := Aside0.mk hbox; have n2_ := zg w hg; have n3_ := zg w hg; clear HB; have HB := n0_; have BK360 := n1_; have GW360 := n2_; have GE360 := n3_; clear n0_ n1_ n2_ n3_; clear hb hbox hg; have hcz15_0 := zc0 BK360; have hcz15_1 := zc1 BK360; have hcz15_2 := zc2 BK360; have hfz15_0 := zf BK360 0; have hfz15_1 := zf BK360 1; have hfz15_2 := zf BK360 2) | ((with_reducible refine gate_callee (f := 12) rfl ?_); refine goesL_ (some 7) rfl rfl Tryz.func12 (by kernel_rfl) rfl #[.agg #[.string a0_0, .slice A0_1 l0_1.length c0_1, .slice A0_2 l0_2.length c0_2]] rfl zA ?_; (with_reducible refine (trystref08_FormedTree.calls k a0_0 _ _ l0_1 _ _ l0_2 true _ zG ?side1 ?side2 ?side3 ?side4 A2.out).mono ?_); (case side1 => exact Kd.C_below (Kd.C_below HR0_1.out HB.out) zX); (case side2 => exact HC0_1.out); (case side3 => exact Kd.C_below (Kd.C_below HR0_2.out HB.out) zX); (case side4 => exact HC0_2.out); rintro e w16 ⟨rfl, hb⟩; refine ⟨_, rfl, ?_⟩; replace BK360 := zb BK360 hb; replace HB := zw hb; (try clear hb); have hcz17_0 := zc0 BK360; have hcz17_1 := zc1 BK360; have hcz17_2 := zc2 BK360; have hfz17_0 := zf BK360 0; have hfz17_1 := zf BK360 1; have hfz17_2 := zf BK360 2) | ((with_reducible refine gate_callee (f := 23) rfl ?_); refine goesL_ (some 11) rfl rfl Tryz.func23 (by kernel_rfl) rfl #[.agg #[.string a0_0, .slice A0_1 l0_1.length c0_1, .slice A0_2 l0_2.length c0_2]] rfl zA ?_; (with_reducible refine (trystref08_Lines.calls k a0_0 _ _ l0_1 _ _ l0_2 t362 t365 _ zG ?side1 ?side2 ?side3 ?side4 A4.out).mono ?_); (case side1 => exact Kd.C_below (Kd.C_below HR0_1.out HB.out) zX); (case side2 => exact HC0_1.out); (case side3 => exact Kd.C_below (Kd.C_below HR0_2.out HB.out) zX); (case side4 => exact HC0_2.out); rintro e w18 ⟨v363, rfl, ho0, hb⟩; refine ⟨_, rfl, ?_⟩; replace HO364 := Aside0.mk (Kd.R_lower ho0 (below_size zB)); replace BK360 := zb BK360 hb; replace HB := zw hb; (try clear hb); (try clear ho0)))
   go_ret2; exact ⟨zE, zB⟩
 ·simp only [Option.some.injEq, Prod.mk.injEq] at H; obtain ⟨rfl, rfl⟩ := H
  go_enter Tryz.func10, Tryz.ntmps10
  go_wp2_with (first | ((with_reducible refine gate_dst (N := 1) rfl ?_); refine zbox (N := 1) #[.string a0_0, .slice A0_1 l0_1.length c0_1, .slice A0_2 l0_2.length c0_2] 25 (fun gb360 hg w19 hbox hb => ?_); have n0_ := zw hb; have n1_ := Aside0.mk hbox; have n2_ := zg w hg; have n3_ := zg w hg; clear HB; have HB := n0_; have BK360 := n1_; have GW360 := n2_; have GE360 := n3_; clear n0_ n1_ n2_ n3_; clear hb hbox hg; have hcz20_0 := zc0 BK360; have hcz20_1 := zc1 BK360; have hcz20_2 := zc2 BK360; have hfz20_0 := zf BK360 0; have hfz20_1 := zf BK360 1; have hfz20_2 := zf BK360 2) | ((with_reducible refine gate_callee (f := 12) rfl ?_); refine goesL_ (some 7) rfl rfl Tryz.func12 (by kernel_rfl) rfl #[.agg #[.string a0_0, .slice A0_1 l0_1.length c0_1, .slice A0_2 l0_2.length c0_2]] rfl zA ?_; (with_reducible refine (trystref08_FormedTree.calls k a0_0 _ _ l0_1 _ _ l0_2 false _ zG ?side1 ?side2 ?side3 ?side4 A2.out).mono ?_); (case side1 => exact Kd.C_below (Kd.C_below HR0_1.out HB.out) zX); (case side2 => exact HC0_1.out); (case side3 => exact Kd.C_below (Kd.C_below HR0_2.out HB.out) zX); (case side4 => exact HC0_2.out); rintro e w21 ⟨rfl, hb⟩; refine ⟨_, rfl, ?_⟩; replace BK360 := zb BK360 hb; replace HB := zw hb; (try clear hb)))
  go_ret2; exact ⟨zE, zB⟩
end Go.Proofs.YtdojmdbaiddkgaaGreatDoor.Print
end
section
set_option linter.unusedVariables false
set_option linter.unusedSimpArgs false
set_option linter.unusedSectionVars false
namespace Go.Proofs.YtdojmdbaiddkgaaGreatDoor.Pure
open Go.RowKit Go.Proofs.YtdojmdbaiddkgaaGreatDoor.Print Go.Proofs.YtdojmdbaiddkgaaGreatDoorW.PrintWords Go.Proofs.YtdojmdbaiddkgaaGreatDoorW.PrintLast
def LS (x : RL) : Prop := x.f0.size ≤ 140737488351232 ∧ x.f2.size ≤ 140737488351232 ∧ ∀ p ∈ x.f1, ParB' (toP p)
mutual
def TS : RT → Prop
  | ⟨n, l, k⟩ => n.size ≤ 140737488351232 ∧ (∀ x ∈ l, LS x) ∧ TSs k
def TSs : List RT → Prop
  | [] => True
  | t :: r => TS t ∧ TSs r
end
theorem TSs_all : ∀ l : List RT, TSs l → ∀ t ∈ l, TS t
  | [], _, t, ht => by simp at ht
  | x :: r, h, t, ht => by
    simp only [TSs] at h
    rcases List.mem_cons.1 ht with rfl | ht
    · exact h.1
    · exact TSs_all r h.2 t ht
theorem TS_of {t : RT} (h : TS t) : t.f0.size ≤ 140737488351232 ∧ (∀ x ∈ t.f1, LS x) ∧ ∀ x ∈ t.f2, TS x := by
  obtain ⟨n, l, k⟩ := t
  simp only [TS] at h
  exact ⟨h.1, h.2.1, TSs_all k h.2.2⟩
theorem rdPT (ks : List RT) (i : Nat) (h : i < ks.length) : rd_T31 (ks.map toT) (i : Int) = ⟨ks[i].f0, ks[i].f1.map toL, ks[i].f2.map toT⟩ := by
  unfold rd_T31
  rw [Int.toNat_natCast, List.getD_eq_getElem?_getD, List.getElem?_map, List.getElem?_eq_getElem h]
  exact toT_f _
theorem rdPLm (l : List RL) (i : Nat) (h : i < l.length) : rd_T49 (l.map toL) (i : Int) = ⟨l[i].f0, l[i].f1.map toP, l[i].f2⟩ := by
  unfold rd_T49
  rw [Int.toNat_natCast, List.getD_eq_getElem?_getD, List.getElem?_map, List.getElem?_eq_getElem h]
  rfl
mutual
def cnt : RT → Int
  | ⟨_, l, k⟩ => cnts k (wrap64 (2 + (l.length : Int)))
def cnts : List RT → Int → Int
  | [], a => a
  | t :: r, a => cnts r (wrap64 (a + cnt t))
end
theorem cnt_f (t : RT) : cnt t = cnts t.f2 (wrap64 (2 + (t.f1.length : Int))) := by
  obtain ⟨n, l, k⟩ := t
  simp only [cnt]
theorem cnts_drop (ks : List RT) (i : Nat) (h : i < ks.length) (a : Int) : cnts (ks.drop i) a = cnts (ks.drop (i + 1)) (wrap64 (a + cnt ks[i])) := by
  rw [List.drop_eq_getElem_cons h]; simp only [cnts]
theorem cnts_end (ks : List RT) (a : Int) : cnts (ks.drop ks.length) a = a := by
  rw [List.drop_eq_nil_of_le (Nat.le_refl _)]; simp only [cnts]
theorem cntP_l0 (ks : List RT) (hk : ks.length ≤ 9000000000000000000) (ih : ∀ t ∈ ks, Ev (fun k => tree_Count.f k t.f0 (t.f1.map toL) (t.f2.map toT)) (cnt t)) :
    ∀ (d i : Nat) (a : Int), i + d = ks.length → Ev (fun k => tree_Count.l0 k a (ks.map toT) (ks.length : Int) (i : Int)) (cnts (ks.drop i) a) := by
  intro d
  induction d with
  | zero =>
    intro i a hi
    obtain rfl : i = ks.length := by omega
    rw [cnts_end]
    exact Ev.step (f := fun _ => some a) (fun k => by simp only [tree_Count.l0]; rw [if_neg (by omega)]) (Ev.now _)
  | succ d ihd =>
    intro i a hi
    have hil : i < ks.length := by omega
    rw [cnts_drop ks i hil]
    refine Ev.step (f := fun k => (tree_Count.f k ks[i].f0 (ks[i].f1.map toL) (ks[i].f2.map toT)).bind fun t => tree_Count.l0 k (wrap64 (a + t)) (ks.map toT) (ks.length : Int) ((i + 1 : Nat) : Int)) (fun k => ?_) (Ev.bind (ih _ (List.getElem_mem hil)) (ihd (i + 1) _ (by omega)))
    simp only [tree_Count.l0]
    rw [if_pos (by omega), if_pos (by omega), if_pos (by rw [List.length_map]; omega), rdPT ks i hil, wrapS i _ hil hk]
theorem cntP : ∀ (N : Nat) (t : RT), SizeOf.sizeOf t < N → TB t → Ev (fun k => tree_Count.f k t.f0 (t.f1.map toL) (t.f2.map toT)) (cnt t)
  | 0, t, h, _ => by omega
  | N + 1, t, h, hb => by
    obtain ⟨_, h3, h4⟩ := TB_of hb
    have h0 := cntP_l0 t.f2 (by omega) (fun x hx => cntP N x (by have := kid_lt hx; omega) (h4 x hx)) t.f2.length 0 (wrap64 (2 + (t.f1.length : Int))) (by omega)
    rw [List.drop_zero, ← cnt_f] at h0
    exact Ev.step (fun k => by simp only [tree_Count.f]; rw [List.length_map, List.length_map]; rfl) h0
theorem cntR_l0 (nm : ByteArray) (l : List RL) (ks : List RT) (hk : ks.length ≤ 9000000000000000000) (ih : ∀ t ∈ ks, Ev (fun k => trystref08_Count.f k t.f0 t.f1 t.f2) (cnt t)) :
    ∀ (d i : Nat) (a : Int), i + d = ks.length → Ev (fun k => trystref08_Count.l0 k a (ks.length : Int) (i : Int) nm l ks) (cnts (ks.drop i) a) := by
  intro d
  induction d with
  | zero =>
    intro i a hi
    obtain rfl : i = ks.length := by omega
    rw [cnts_end]
    exact Ev.step (f := fun _ => some a) (fun k => by simp only [trystref08_Count.l0]; rw [if_neg (by omega)]) (Ev.now _)
  | succ d ihd =>
    intro i a hi
    have hil : i < ks.length := by omega
    rw [cnts_drop ks i hil]
    refine Ev.step (f := fun k => (trystref08_Count.f k ks[i].f0 ks[i].f1 ks[i].f2).bind fun t => trystref08_Count.l0 k (wrap64 (a + t)) (ks.length : Int) ((i + 1 : Nat) : Int) nm l ks) (fun k => ?_) (Ev.bind (ih _ (List.getElem_mem hil)) (ihd (i + 1) _ (by omega)))
    simp only [trystref08_Count.l0]
    rw [if_pos (by omega), if_pos (by omega), if_pos (by omega), rdRT ks i hil, wrapS i _ hil hk]
theorem cntR : ∀ (N : Nat) (t : RT), SizeOf.sizeOf t < N → TB t → Ev (fun k => trystref08_Count.f k t.f0 t.f1 t.f2) (cnt t)
  | 0, t, h, _ => by omega
  | N + 1, t, h, hb => by
    obtain ⟨_, h3, h4⟩ := TB_of hb
    have h0 := cntR_l0 t.f0 t.f1 t.f2 (by omega) (fun x hx => cntR N x (by have := kid_lt hx; omega) (h4 x hx)) t.f2.length 0 (wrap64 (2 + (t.f1.length : Int))) (by omega)
    rw [List.drop_zero, ← cnt_f] at h0
    exact Ev.step (fun k => by simp only [trystref08_Count.f]; rfl) h0
def bndB (n : ByteArray) : Bool := decide (n.toList = ([66, 69, 71, 73, 78] : List UInt8)) || decide (n.toList = ([69, 78, 68] : List UInt8))
theorem bound_f (n : ByteArray) : tree_bound.f n = some (bndB n) := by
  unfold tree_bound.f bndB
  by_cases h : n.toList = ([66, 69, 71, 73, 78] : List UInt8)
  · rw [if_pos h, decide_eq_true h]; rfl
  · rw [if_neg h, decide_eq_false h, Bool.false_or]
    by_cases h2 : n.toList = ([69, 78, 68] : List UInt8)
    · rw [decide_eq_true h2, beq_iff_eq.2 h2]
    · rw [decide_eq_false h2, beq_eq_false_iff_ne.2 h2]
def okL (x : RL) : Bool := formR x.f0 (x.f1.map toP) x.f2 && !bndB x.f0
mutual
def okT : Nat → RT → Bool
  | d, ⟨n, l, k⟩ => decide (0 < d) && (nameR n && (l.all okL && okTs (d - 1) k))
def okTs : Nat → List RT → Bool
  | _, [] => true
  | d, t :: r => okT d t && okTs d r
end
theorem okT_f (d : Nat) (t : RT) : okT d t = (decide (0 < d) && (nameR t.f0 && (t.f1.all okL && okTs (d - 1) t.f2))) := by
  obtain ⟨n, l, k⟩ := t
  simp only [okT]
theorem okTs_drop (d : Nat) (ks : List RT) (i : Nat) (h : i < ks.length) : okTs d (ks.drop i) = (okT d ks[i] && okTs d (ks.drop (i + 1))) := by
  rw [List.drop_eq_getElem_cons h]; simp only [okTs]
theorem okTs_end (d : Nat) (ks : List RT) : okTs d (ks.drop ks.length) = true := by
  rw [List.drop_eq_nil_of_le (Nat.le_refl _)]; simp only [okTs]
theorem formP_l1 (d0 : Nat) (h0 : 0 < d0) (h4 : d0 ≤ 4) (ks : List RT) (hk : ks.length ≤ 9000000000000000000) (ih : ∀ t ∈ ks, Ev (fun k => tree_formed.f k t.f0 (t.f1.map toL) (t.f2.map toT) ((d0 - 1 : Nat) : Int)) (okT (d0 - 1) t)) :
    ∀ (d i : Nat), i + d = ks.length → Ev (fun k => tree_formed.l1 k (d0 : Int) (ks.map toT) (ks.length : Int) (i : Int)) (okTs (d0 - 1) (ks.drop i)) := by
  intro d
  induction d with
  | zero =>
    intro i hi
    obtain rfl : i = ks.length := by omega
    rw [okTs_end]
    exact Ev.step (f := fun _ => some true) (fun k => by simp only [tree_formed.l1]; rw [if_neg (by omega)]) (Ev.now _)
  | succ d ihd =>
    intro i hi
    have hil : i < ks.length := by omega
    rw [okTs_drop _ ks i hil]
    have hw : wrap64 ((d0 : Int) - 1) = ((d0 - 1 : Nat) : Int) := by unfold wrap64; omega
    refine Ev.step (f := fun k => (tree_formed.f k ks[i].f0 (ks[i].f1.map toL) (ks[i].f2.map toT) ((d0 - 1 : Nat) : Int)).bind fun t => if t = true then tree_formed.l1 k (d0 : Int) (ks.map toT) (ks.length : Int) ((i + 1 : Nat) : Int) else some false) (fun k => ?_) (Ev.bind (ih _ (List.getElem_mem hil)) ?_)
    · simp only [tree_formed.l1]
      rw [if_pos (by omega), if_pos (by omega), if_pos (by rw [List.length_map]; omega), rdPT ks i hil, wrapS i _ hil hk, hw]
    · cases okT (d0 - 1) ks[i] with
      | false => exact Ev.congr (f := fun _ => some false) (fun k => by rw [if_neg (by simp)]) (Ev.now _)
      | true => exact Ev.congr (fun k => by rw [if_pos rfl]) (by rw [Bool.true_and]; exact ihd (i + 1) (by omega))
theorem formP_l0 (x1 : Int) (nm : ByteArray) (l : List RL) (K : List PT) (hl : l.length ≤ 9000000000000000000) (hs : ∀ x ∈ l, LS x) {r : Bool} (next : Ev (fun k => tree_formed.l1 k x1 K (K.length : Int) 0) r) :
    ∀ (d i : Nat), i + d = l.length → Ev (fun k => tree_formed.l0 k x1 (l.map toL) (l.length : Int) (i : Int) nm (l.map toL) K) ((l.drop i).all okL && r) := by
  intro d
  induction d with
  | zero =>
    intro i hi
    rw [List.drop_eq_nil_of_le (by omega), List.all_nil, Bool.true_and]
    exact Ev.step (fun k => by simp only [tree_formed.l0]; rw [if_neg (by omega)]) next
  | succ d ihd =>
    intro i hi
    have hil : i < l.length := by omega
    have hx := hs _ (List.getElem_mem hil)
    rw [List.drop_eq_getElem_cons hil, List.all_cons, Bool.and_assoc]
    refine Ev.step (f := fun k => (line_Formed.f k l[i].f0 (l[i].f1.map toP) l[i].f2).bind fun t => if t = true then ((tree_bound.f l[i].f0).bind fun u => if u = true then some false else tree_formed.l0 k x1 (l.map toL) (l.length : Int) ((i + 1 : Nat) : Int) nm (l.map toL) K) else some false) (fun k => ?_) (Ev.bind (formL l[i].f0 l[i].f2 (l[i].f1.map toP) hx.1 hx.2.1 (fun p hp => by obtain ⟨q, hq, rfl⟩ := List.mem_map.1 hp; exact hx.2.2 q hq)) ?_)
    · simp only [tree_formed.l0]
      rw [if_pos (by omega), if_pos (by omega), if_pos (by rw [List.length_map]; omega), rdPLm l i hil, wrapS i _ hil hl]
    · unfold okL
      cases formR l[i].f0 (l[i].f1.map toP) l[i].f2 with
      | false => exact Ev.congr (f := fun _ => some false) (fun k => by rw [if_neg (by simp)]) (Ev.now _)
      | true =>
        refine Ev.congr (f := fun k => if bndB l[i].f0 = true then some false else tree_formed.l0 k x1 (l.map toL) (l.length : Int) ((i + 1 : Nat) : Int) nm (l.map toL) K) (fun k => by rw [if_pos rfl, bound_f, Option.bind_some]) ?_
        cases bndB l[i].f0 with
        | true => exact Ev.congr (f := fun _ => some false) (fun k => by rw [if_pos rfl]) (Ev.now _)
        | false => exact Ev.congr (fun k => by rw [if_neg (by simp)]) (by rw [Bool.not_false, Bool.true_and, Bool.true_and]; exact ihd (i + 1) (by omega))
theorem formP : ∀ (N : Nat) (t : RT), SizeOf.sizeOf t < N → TB t → TS t → ∀ d : Nat, d ≤ 4 → Ev (fun k => tree_formed.f k t.f0 (t.f1.map toL) (t.f2.map toT) (d : Int)) (okT d t)
  | 0, t, h, _, _ => by omega
  | N + 1, t, h, hb, hs => by
    intro d hd
    obtain ⟨⟨h1, h2⟩, h3, h4⟩ := TB_of hb
    obtain ⟨s1, s2, s3⟩ := TS_of hs
    have hno : ∀ x : Int, Ev (fun k => tree_formed.j0 k x true t.f0 (t.f1.map toL) (t.f2.map toT)) false := fun x => Ev.step (f := fun _ => some false) (fun k => by simp only [tree_formed.j0]; rfl) (Ev.now _)
    rw [okT_f]
    by_cases h0 : 0 < d
    case neg =>
      rw [decide_eq_false h0, Bool.false_and]
      exact Ev.step (fun k => by simp only [tree_formed.f]; rw [if_pos (by omega)]) (hno _)
    rw [decide_eq_true h0, Bool.true_and]
    refine Ev.step (f := fun k => (line_Name.f k t.f0).bind fun t210 => tree_formed.j0 k (d : Int) (!t210) t.f0 (t.f1.map toL) (t.f2.map toT)) (fun k => by simp only [tree_formed.f]; rw [if_neg (by omega)]) (Ev.bind (nameL t.f0 s1) ?_)
    cases nameR t.f0 with
    | false => exact hno _
    | true =>
      rw [Bool.true_and]
      have n1 := formP_l1 d h0 hd t.f2 (by omega) (fun x hx => formP N x (by have := kid_lt hx; omega) (h4 x hx) (s3 x hx) (d - 1) (by omega)) t.f2.length 0 (by omega)
      rw [List.drop_zero] at n1
      have n0 := formP_l0 (d : Int) t.f0 t.f1 (t.f2.map toT) (by omega) s2 (r := okTs (d - 1) t.f2) (by rw [List.length_map]; exact n1) t.f1.length 0 (by omega)
      rw [List.drop_zero] at n0
      exact Ev.step (fun k => by simp only [tree_formed.j0]; rw [if_neg (by simp), List.length_map]; rfl) n0
theorem rightR_l1 (nm : ByteArray) (l : List RL) (d0 : Nat) (h0 : 0 < d0) (h4 : d0 ≤ 4) (ks : List RT) (hk : ks.length ≤ 9000000000000000000) (ih : ∀ t ∈ ks, Ev (fun k => trystref08_right.f k t.f0 t.f1 t.f2 (5 - ((d0 - 1 : Nat) : Int))) (okT (d0 - 1) t)) :
    ∀ (d i : Nat), i + d = ks.length → Ev (fun k => trystref08_right.l1 k (5 - (d0 : Int)) (ks.length : Int) (i : Int) nm l ks) (okTs (d0 - 1) (ks.drop i)) := by
  intro d
  induction d with
  | zero =>
    intro i hi
    obtain rfl : i = ks.length := by omega
    rw [okTs_end]
    exact Ev.step (f := fun _ => some true) (fun k => by simp only [trystref08_right.l1]; rw [if_neg (by omega)]) (Ev.now _)
  | succ d ihd =>
    intro i hi
    have hil : i < ks.length := by omega
    rw [okTs_drop _ ks i hil]
    have hw : wrap64 (5 - (d0 : Int) + 1) = 5 - ((d0 - 1 : Nat) : Int) := by unfold wrap64; omega
    refine Ev.step (f := fun k => (trystref08_right.f k ks[i].f0 ks[i].f1 ks[i].f2 (5 - ((d0 - 1 : Nat) : Int))).bind fun t => if t = true then trystref08_right.l1 k (5 - (d0 : Int)) (ks.length : Int) ((i + 1 : Nat) : Int) nm l ks else some false) (fun k => ?_) (Ev.bind (ih _ (List.getElem_mem hil)) ?_)
    · simp only [trystref08_right.l1]
      rw [if_pos (by omega), if_pos (by omega), if_pos (by omega), rdRT ks i hil, wrapS i _ hil hk, hw]
    · cases okT (d0 - 1) ks[i] with
      | false => exact Ev.congr (f := fun _ => some false) (fun k => by rw [if_neg (by simp)]) (Ev.now _)
      | true => exact Ev.congr (fun k => by rw [if_pos rfl]) (by rw [Bool.true_and]; exact ihd (i + 1) (by omega))
theorem rightR_l0 (x1 : Int) (nm : ByteArray) (l : List RL) (ks : List RT) (hl : l.length ≤ 9000000000000000000) (hs : ∀ x ∈ l, LS x) {r : Bool} (next : Ev (fun k => trystref08_right.l1 k x1 (ks.length : Int) 0 nm l ks) r) :
    ∀ (d i : Nat), i + d = l.length → Ev (fun k => trystref08_right.l0 k x1 (l.length : Int) (i : Int) nm l ks) ((l.drop i).all okL && r) := by
  intro d
  induction d with
  | zero =>
    intro i hi
    rw [List.drop_eq_nil_of_le (by omega), List.all_nil, Bool.true_and]
    exact Ev.step (fun k => by simp only [trystref08_right.l0]; rw [if_neg (by omega)]) next
  | succ d ihd =>
    intro i hi
    have hil : i < l.length := by omega
    have hx := hs _ (List.getElem_mem hil)
    rw [List.drop_eq_getElem_cons hil, List.all_cons, Bool.and_assoc]
    refine Ev.step (f := fun k => (trystref08_Formed.f k l[i].f0 l[i].f1 l[i].f2).bind fun t => if t = true then (if l[i].f0.toList = ([66, 69, 71, 73, 78] : List UInt8) then some false else if l[i].f0.toList = ([69, 78, 68] : List UInt8) then some false else trystref08_right.l0 k x1 (l.length : Int) ((i + 1 : Nat) : Int) nm l ks) else some false) (fun k => ?_) (Ev.bind (refF l[i].f0 l[i].f2 l[i].f1 hx.1 hx.2.1 hx.2.2) ?_)
    · simp only [trystref08_right.l0]
      rw [if_pos (by omega), if_pos (by omega), if_pos (by omega), rdRL l i hil, wrapS i _ hil hl]
    · unfold okL bndB
      cases formR l[i].f0 (l[i].f1.map toP) l[i].f2 with
      | false => exact Ev.congr (f := fun _ => some false) (fun k => by rw [if_neg (by simp)]) (Ev.now _)
      | true =>
        by_cases e1 : l[i].f0.toList = ([66, 69, 71, 73, 78] : List UInt8)
        · rw [decide_eq_true e1]
          exact Ev.congr (f := fun _ => some false) (fun k => by rw [if_pos rfl, if_pos e1]) (Ev.now _)
        · by_cases e2 : l[i].f0.toList = ([69, 78, 68] : List UInt8)
          · rw [decide_eq_true e2, Bool.or_true]
            exact Ev.congr (f := fun _ => some false) (fun k => by rw [if_pos rfl, if_neg e1, if_pos e2]) (Ev.now _)
          · rw [decide_eq_false e1, decide_eq_false e2]
            exact Ev.congr (fun k => by rw [if_pos rfl, if_neg e1, if_neg e2]) (by rw [Bool.or_false, Bool.not_false, Bool.true_and, Bool.true_and]; exact ihd (i + 1) (by omega))
theorem rightR : ∀ (N : Nat) (t : RT), SizeOf.sizeOf t < N → TB t → TS t → ∀ d : Nat, d ≤ 4 → Ev (fun k => trystref08_right.f k t.f0 t.f1 t.f2 (5 - (d : Int))) (okT d t)
  | 0, t, h, _, _ => by omega
  | N + 1, t, h, hb, hs => by
    intro d hd
    obtain ⟨⟨h1, h2⟩, h3, h4⟩ := TB_of hb
    obtain ⟨s1, s2, s3⟩ := TS_of hs
    have hno : ∀ x : Int, Ev (fun k => trystref08_right.j0 k x true t.f0 t.f1 t.f2) false := fun x => Ev.step (f := fun _ => some false) (fun k => by simp only [trystref08_right.j0]; rfl) (Ev.now _)
    rw [okT_f]
    by_cases h0 : 0 < d
    case neg =>
      rw [decide_eq_false h0, Bool.false_and]
      exact Ev.step (fun k => by simp only [trystref08_right.f]; rw [if_pos (by omega)]) (hno _)
    rw [decide_eq_true h0, Bool.true_and]
    refine Ev.step (f := fun k => (trystref08_Name.f k t.f0).bind fun u => trystref08_right.j0 k (5 - (d : Int)) (!u) t.f0 t.f1 t.f2) (fun k => by simp only [trystref08_right.f]; rw [if_neg (by omega)]) (Ev.bind (refName t.f0 s1) ?_)
    cases nameR t.f0 with
    | false => exact hno _
    | true =>
      rw [Bool.true_and]
      have n1 := rightR_l1 t.f0 t.f1 d h0 hd t.f2 (by omega) (fun x hx => rightR N x (by have := kid_lt hx; omega) (h4 x hx) (s3 x hx) (d - 1) (by omega)) t.f2.length 0 (by omega)
      rw [List.drop_zero] at n1
      have n0 := rightR_l0 (5 - (d : Int)) t.f0 t.f1 t.f2 (by omega) s2 (r := okTs (d - 1) t.f2) n1 t.f1.length 0 (by omega)
      rw [List.drop_zero] at n0
      exact Ev.step (fun k => by simp only [trystref08_right.j0]; rw [if_neg (by simp)]; rfl) n0
def formT (t : RT) : Bool := okT 4 t && decide (cnt t ≤ 300)
theorem formTP (t : RT) (hb : TB t) (hs : TS t) : Ev (fun k => tree_Formed.f k t.f0 (t.f1.map toL) (t.f2.map toT)) (formT t) := by
  have h1 := formP _ t (Nat.lt_succ_self _) hb hs 4 (by omega)
  have h2 := cntP _ t (Nat.lt_succ_self _) hb
  unfold formT
  refine Ev.bind h1 ?_
  cases okT 4 t with
  | false => exact Ev.congr (f := fun _ => some false) (fun k => by rw [if_neg (by simp)]) (Ev.now _)
  | true => exact Ev.congr (fun k => by rw [if_pos rfl]) (Ev.bind h2 (Ev.now _))
theorem formTR (t : RT) (hb : TB t) (hs : TS t) : Ev (fun k => trystref08_FormedTree.f k t.f0 t.f1 t.f2) (formT t) := by
  have h1 := rightR _ t (Nat.lt_succ_self _) hb hs 4 (by omega)
  have h2 := cntR _ t (Nat.lt_succ_self _) hb
  unfold formT
  refine Ev.bind h1 ?_
  cases okT 4 t with
  | false => exact Ev.congr (f := fun _ => some false) (fun k => by rw [if_neg (by simp)]) (Ev.now _)
  | true => exact Ev.congr (fun k => by rw [if_pos rfl]) (Ev.bind h2 (Ev.now _))
end Go.Proofs.YtdojmdbaiddkgaaGreatDoor.Pure
end
section
namespace Go.Proofs.YtdojmdbaiddkgaaGreatDoor.Print
open Go.RowKit Go.Proofs.YtdojmdbaiddkgaaGreatDoorW.PrintWords Go.Proofs.YtdojmdbaiddkgaaGreatDoorW.PrintLast
set_option linter.unusedVariables false
set_option linter.unusedSimpArgs false
def trystlaw11_TreePrints.j0 : Nat → Bool → ByteArray → List (S53) → List (S25) → Option (Bool)
 | 0, _, _, _, _ => none
 | k + 1, x14, x369000, x369001, x369002 => if x14 = true then ((trystlaw11_awake.f k).bind fun t371 => (some t371)) else ((trystlaw11_Theirs.f k x369000 x369001 x369002).bind fun bt372 => ((tree_Print.f k bt372.1 bt372.2.1 bt372.2.2).bind fun bt380 => ((trystref08_PrintTree.f k x369000 x369001 x369002).bind fun bt382 => (if bt380.1.toList = bt382.1.toList then (if bt380.2 = bt382.2 then ((tree_Formed.f k bt372.1 bt372.2.1 bt372.2.2).bind fun t384 => ((trystref08_FormedTree.f k x369000 x369001 x369002).bind fun t385 => (if (t384 == t385) = true then ((tree_Count.f k bt372.1 bt372.2.1 bt372.2.2).bind fun t386 => ((trystref08_Count.f k x369000 x369001 x369002).bind fun t387 => (some (t386 == t387)))) else (some false)))) else (some false)) else (some false)))))
def trystlaw11_TreePrints.f (k : Nat) (a0_0 : ByteArray) (l0_1 : List (S53)) (l0_2 : List (S25)) : Option (Bool) := (trystlaw11_awake.f k).bind fun t369 => (if t369 = true then ((trystlaw11_Few.f k a0_0 l0_1 l0_2).bind fun t370 => (trystlaw11_TreePrints.j0 k (!t370) a0_0 l0_1 l0_2)) else (trystlaw11_TreePrints.j0 k true a0_0 l0_1 l0_2))
def trystlaw11_TreePrints.T6 : Bool × List (List Nat × List Nat) := (true, [([], []), ([], []), ([0, 1], [0, 1]), ([2], [2]), ([3], [3]), ([3], [3]), ([4, 5, 3], [3, 4, 5]), ([3, 6], [3, 6]), ([7, 3], [7]), ([8], [8]), ([9, 8, 8], [8, 9]), ([8], [8]), ([11, 10, 8], [8, 11]), ([10, 12, 8], [8, 10, 12]), ([8, 13], [8, 13]), ([14, 12], [14]), ([15], [15]), ([16, 15, 15], [15, 16]), ([15], [15]), ([18, 17, 15], [15, 18]), ([17, 19, 15], [15, 17, 19]), ([15, 20], [15, 20]), ([21, 19, 0, 1, 2, 3, 4, 5, 6, 7, 8, 9, 10, 11, 12, 13, 14, 15, 16, 17, 18, 19, 20, 21], [21])])
def trystlaw11_TreePrints.B6 : List Nat := [0, 0, 3, 7, 15, 15, 63, 127, 255, 511, 1023, 511, 4095, 8191, 16383, 32767, 65535, 131071, 65535, 524287, 1048575, 2097151, 4194303]
theorem trystlaw11_TreePrints.tab6 : rtab .any (opsOf Tryz.f3 6) = trystlaw11_TreePrints.T6 := by kernel_rfl
theorem trystlaw11_TreePrints.bits6 : waitsOk trystlaw11_TreePrints.T6.2 trystlaw11_TreePrints.B6 = true := by kernel_rfl
set_option maxHeartbeats 8000000 in
set_option maxRecDepth 100000 in
theorem trystlaw11_TreePrints.calls (k : Nat) (a0_0 : ByteArray) (A0_1 : Option Addr) (c0_1 : Nat) (l0_1 : List (S53)) (A0_2 : Option Addr) (c0_2 : Nat) (l0_2 : List (S25)) (r : Bool) (w : World) (hG : GG w) (hr0_1 : Kd.C k53 w A0_1 l0_1.length l0_1) (hc0_1 : l0_1.length ≤ c0_1) (hr0_2 : Kd.C k25 w A0_2 l0_2.length l0_2) (hc0_2 : l0_2.length ≤ c0_2) (h : trystlaw11_TreePrints.f k a0_0 l0_1 l0_2 = some r) :
  Calls Tryz.prog 3 #[.agg #[.string a0_0, .slice A0_1 l0_1.length c0_1, .slice A0_2 l0_2.length c0_2]] w fun e w' => e = .returned (.bool r) ∧ Below w.heap.size w w' := by
 have hu25 := Tryz.underlying25; have hu31 := Tryz.underlying31; have HR0_1 := Aside0.mk hr0_1; have HC0_1 := Aside0.mk hc0_1; clear hr0_1 hc0_1; have HR0_2 := Aside0.mk hr0_2; have HC0_2 := Aside0.mk hc0_2; clear hr0_2 hc0_2; have HB := Aside0.mk (Below.refl w.heap.size w); have H : ((trystlaw11_awake.f k).bind fun t369 => (if t369 = true then ((trystlaw11_Few.f k a0_0 l0_1 l0_2).bind fun t370 => (trystlaw11_TreePrints.j0 k (!t370) a0_0 l0_1 l0_2)) else (trystlaw11_TreePrints.j0 k true a0_0 l0_1 l0_2))) = some r := h; clear h; have HC2 := Aside0.mk H; clear H
 go_enter Tryz.func3, Tryz.ntmps3
 go_upto_region 1 with (first | ((with_reducible refine gate_dst (N := 1) rfl ?_); refine zbox (N := 1) #[.string a0_0, .slice A0_1 l0_1.length c0_1, .slice A0_2 l0_2.length c0_2] 25 (fun gb368 hg w3 hbox hb => ?_); have n0_ := zw hb; have n1_ := Aside0.mk hbox; have n2_ := zg w hg; have n3_ := zg w hg; clear HB; have HB := n0_; have BK368 := n1_; have GW368 := n2_; have GE368 := n3_; clear n0_ n1_ n2_ n3_; clear hb hbox hg))
 (try simp only [Act.put, List.setIfInBounds_toArray, List.set_cons_zero, List.set_cons_succ])
 go_cut [14] (fun v14 wc => ∃ (kq : Nat) (x14_1 : Bool), v14 = .bool x14_1 ∧ Aside0 (trystlaw11_TreePrints.j0 kq x14_1 a0_0 l0_1 l0_2 = some r) ∧ Aside0 (kq ≤ k) ∧ Aside0 (wc.heap[gb368]? = some (.cells #[.string a0_0, (.slice A0_1 l0_1.length c0_1), (.slice A0_2 l0_2.length c0_2)] 25 (0, 0))) ∧ Aside0 (Below w.heap.size w wc))
 case first =>
  have H := HC2.out; clear HC2; replace H := zO H; obtain ⟨t369, A4, H⟩ := H; replace H := zIb H; rcases H with ⟨rfl, H⟩ | ⟨rfl, H⟩
  ·replace H := zO H; obtain ⟨t370, A6, H⟩ := H; have H' := Aside0.mk H; clear H
   go_wp2_with (first | ((with_reducible refine gate_callee (f := 6) rfl ?_); refine zqb 8 Tryz.func6 #[] (trystlaw11_awake.calls k  true _ zG A4.out) (fun w7 hb => ?_); replace BK368 := zb BK368 hb; replace HB := zw hb; (try clear hb); have hcz8_0 := zc0 BK368; have hcz8_1 := zc1 BK368; have hcz8_2 := zc2 BK368; have hfz8_0 := zf BK368 0; have hfz8_1 := zf BK368 1; have hfz8_2 := zf BK368 2) | (go_at_call 7; (with_reducible refine (trystlaw11_Few.calls k a0_0 _ _ l0_1 _ _ l0_2 t370 _ zG ?side1 ?side2 ?side3 ?side4 A6.out).mono ?_); (case side1 => exact Kd.C_below (Kd.C_below HR0_1.out HB.out) zX); (case side2 => exact HC0_1.out); (case side3 => exact Kd.C_below (Kd.C_below HR0_2.out HB.out) zX); (case side4 => exact HC0_2.out); rintro e w9 ⟨rfl, hb⟩; replace BK368 := zb BK368 hb; replace HB := zw hb; (try clear hb)))
   go_meet
   case rel => exact ⟨_, (!t370), zS, H', ⟨by first | omega | exact Nat.le_refl _⟩, ⟨blk_below BK368.out zX⟩, ⟨zB⟩⟩
  ·have H' := Aside0.mk H; clear H
   go_wp2_with (first | ((with_reducible refine gate_callee (f := 6) rfl ?_); refine zqb 8 Tryz.func6 #[] (trystlaw11_awake.calls k  false _ zG A4.out) (fun w10 hb => ?_); replace BK368 := zb BK368 hb; replace HB := zw hb; (try clear hb)))
   go_meet
   case rel => exact ⟨_, (true), zS, H', ⟨by first | omega | exact Nat.le_refl _⟩, ⟨blk_below BK368.out zX⟩, ⟨zB⟩⟩
 case rest =>
  clear HC2; obtain ⟨kq, x14_1, rfl, HA, HJ1, BK368, HB⟩ := hcut
  cases kq with
  | zero => exact absurd HA.out (by simp [trystlaw11_TreePrints.j0])
  | succ kj1 =>
   have H := HA.out; clear HA; simp only [trystlaw11_TreePrints.j0] at H; replace H := zIb H; rcases H with ⟨rfl, H⟩ | ⟨rfl, H⟩
   ·replace H := zO H; obtain ⟨t371, A12, H⟩ := H; obtain rfl := Option.some.inj H
    go_wp2_with (first | ((with_reducible refine gate_callee (f := 6) rfl ?_); refine zqb 15 Tryz.func6 #[] (trystlaw11_awake.calls kj1  t371 _ zG A12.out) (fun w13 hb => ?_); replace BK368 := zb BK368 hb; replace HB := zw hb; (try clear hb)))
    go_ret; exact ⟨zE, zB⟩
   ·replace H := Option.bind_eq_some_iff.mp H; obtain ⟨⟨t372, t373, t376⟩, A140, H⟩ := H; replace H : ((tree_Print.f kj1 t372 t373 t376).bind fun bt380 => ((trystref08_PrintTree.f kj1 a0_0 l0_1 l0_2).bind fun bt382 => (if bt380.1.toList = bt382.1.toList then (if bt380.2 = bt382.2 then ((tree_Formed.f kj1 t372 t373 t376).bind fun t384 => ((trystref08_FormedTree.f kj1 a0_0 l0_1 l0_2).bind fun t385 => (if (t384 == t385) = true then ((tree_Count.f kj1 t372 t373 t376).bind fun t386 => ((trystref08_Count.f kj1 a0_0 l0_1 l0_2).bind fun t387 => (some (t386 == t387)))) else (some false)))) else (some false)) else (some false)))) = some r := H; have A14 := Aside0.mk A140; clear A140; replace H := Option.bind_eq_some_iff.mp H; obtain ⟨⟨t380, t381⟩, A150, H⟩ := H
    replace H : ((trystref08_PrintTree.f kj1 a0_0 l0_1 l0_2).bind fun bt382 => (if t380.toList = bt382.1.toList then (if t381 = bt382.2 then ((tree_Formed.f kj1 t372 t373 t376).bind fun t384 => ((trystref08_FormedTree.f kj1 a0_0 l0_1 l0_2).bind fun t385 => (if (t384 == t385) = true then ((tree_Count.f kj1 t372 t373 t376).bind fun t386 => ((trystref08_Count.f kj1 a0_0 l0_1 l0_2).bind fun t387 => (some (t386 == t387)))) else (some false)))) else (some false)) else (some false))) = some r := H; have A15 := Aside0.mk A150; clear A150; replace H := Option.bind_eq_some_iff.mp H; obtain ⟨⟨t382, t383⟩, A160, H⟩ := H
    replace H : (if t380.toList = t382.toList then (if t381 = t383 then ((tree_Formed.f kj1 t372 t373 t376).bind fun t384 => ((trystref08_FormedTree.f kj1 a0_0 l0_1 l0_2).bind fun t385 => (if (t384 == t385) = true then ((tree_Count.f kj1 t372 t373 t376).bind fun t386 => ((trystref08_Count.f kj1 a0_0 l0_1 l0_2).bind fun t387 => (some (t386 == t387)))) else (some false)))) else (some false)) else (some false)) = some r := H; have A16 := Aside0.mk A160; clear A160; replace H := zIe H; rcases H with ⟨-, c17b0, c17b1, H⟩ | ⟨c17, c17b0, c17b1, H⟩
    ·replace H := zIe H; rcases H with ⟨-, c18b0, c18b1, H⟩ | ⟨c18, c18b0, c18b1, H⟩
     ·replace H := zO H; obtain ⟨t384, A19, H⟩ := H; replace H := zO H; obtain ⟨t385, A20, H⟩ := H; replace H := zI H; rcases H with ⟨c21, H⟩ | ⟨c21, H⟩
      ·have c21b0 : (t384 == t385) = true := c21; (try (have c21b1 : decide (t384 = t385) = true := by simpa using c21)); (try (have c21b2 : (t384 == t385) = true := by simpa using c21)); clear c21; replace H := zO H; obtain ⟨t386, A22, H⟩ := H; replace H := zO H; obtain ⟨t387, A23, H⟩ := H; obtain rfl := Option.some.inj H; have hcz24_0 := zc0 BK368; have hcz24_1 := zc1 BK368; have hcz24_2 := zc2 BK368; have hfz24_0 := zf BK368 0; have hfz24_1 := zf BK368 1; have hfz24_2 := zf BK368 2
       try go_wp2_with (first | ((with_reducible refine gate_callee (f := 8) rfl ?_); refine goesL_ (some 17) rfl rfl Tryz.func8 (by kernel_rfl) rfl #[.agg #[.string a0_0, .slice A0_1 l0_1.length c0_1, .slice A0_2 l0_2.length c0_2]] rfl zA ?_; (with_reducible refine (trystlaw11_Theirs.calls kj1 a0_0 _ _ l0_1 _ _ l0_2 t372 t373 t376 _ zG ?side1 ?side2 ?side3 ?side4 A14.out).mono ?_); (case side1 => exact Kd.C_below (Kd.C_below HR0_1.out HB.out) zX); (case side2 => exact HC0_1.out); (case side3 => exact Kd.C_below (Kd.C_below HR0_2.out HB.out) zX); (case side4 => exact HC0_2.out); rintro e w25 ⟨v374, v377, rfl, ho0, ho1, hb⟩; refine ⟨_, rfl, ?_⟩; replace HO375 := Aside0.mk (Kd.R_lower ho0 (below_size zB)); replace HO378 := Aside0.mk (Kd.R_lower ho1 (below_size zB)); replace BK368 := zb BK368 hb; replace HB := zw hb; (try clear hb); (try clear ho0); (try clear ho1)) | ((with_reducible refine gate_dst (N := 3) rfl ?_); refine zbox (N := 3) #[.string (⟨#[]⟩ : ByteArray), .slice none 0 0, .slice none 0 0] 31 (fun gb379 hg w26 hbox hb => ?_); replace HO375 := Aside0.mk (Kd.R_below (Kd.R_below HO375.out zX) hb); replace HO378 := Aside0.mk (Kd.R_below (Kd.R_elderB (Kd.R_below HO378.out zX) gb379 (Nat.le_of_eq hg.symm)) hb); replace BK379 := Aside0.mk hbox; replace GW379 := zg w hg; replace GE379 := zg w hg; replace HB := zw hb; replace NB368_379 := zn BK368 hg; replace NB379_368 := zm BK368 hg; replace BK368 := zb BK368 hb; clear hb hbox hg; have hnb27 := NB379_368.out; have hnc27 := NB368_379.out; have hcz28_0 := zc0 BK379; have hcz28_1 := zc1 BK379; have hcz28_2 := zc2 BK379; have hfz28_0 := zf BK379 0; have hfz28_1 := zf BK379 1; have hfz28_2 := zf BK379 2; obtain ⟨Ao29, co29, eo29⟩ := Kd.R_slice HO375.out; subst eo29; obtain ⟨Ao30, co30, eo30⟩ := Kd.R_slice HO378.out; subst eo30) | ((with_reducible refine gate_callee (f := 9) rfl ?_); refine goesL_ (some 20) rfl rfl Tryz.func9 (by kernel_rfl) rfl #[.agg #[.string t372, .slice Ao29 t373.length co29, .slice Ao30 t376.length co30]] rfl zA ?_; (with_reducible refine (tree_Print.calls kj1 t372 _ _ t373 _ _ t376 t380 t381 _ zG ?side1 ?side2 ?side3 ?side4 A15.out).mono ?_); (case side1 => refine (Kd.R_reads' (e := 49) (base := w.heap.size) (ok := fun k_ => True) (n := t373.length) (c := co29) ?_).2.2; exact (by (with_reducible repeat (first | apply Kd.R_alloc | apply Kd.R_drewN | apply Kd.R_drew)); exact (Kd.R_mono (Kd.R_far (p := ⟨gb379, 2, none⟩) (Kd.R_far (p := ⟨gb379, 1, none⟩) (Kd.R_far (p := ⟨gb379, 0, none⟩) (Kd.R_types HO375.out BK379.out (by decide)) (fun _ hk => hk.2) (.string t372)) (fun _ hk => hk.2) (.slice Ao29 t373.length co29)) (fun _ hk => hk.2) (.slice Ao30 t376.length co30)) (fun _ h_ => h_.1)))); (case side2 => exact (Kd.R_reads' HO375.out).2.1); (case side3 => refine (Kd.R_reads' (e := 31) (base := w.heap.size) (ok := fun k_ => (some k_ ≠ (.slice Ao29 t373.length co29 : Value).ownBlock ∧ k_ ≠ gb379)) (n := t376.length) (c := co30) ?_).2.2; exact (by (with_reducible repeat (first | apply Kd.R_alloc | apply Kd.R_drewN | apply Kd.R_drew)); exact (Kd.R_mono (Kd.R_far (p := ⟨gb379, 2, none⟩) (Kd.R_far (p := ⟨gb379, 1, none⟩) (Kd.R_far (p := ⟨gb379, 0, none⟩) (Kd.R_mono HO378.out (fun k_ hk => (⟨hk, hk.2⟩ : _ ∧ k_ ≠ gb379))) (fun _ hk => hk.2) (.string t372)) (fun _ hk => hk.2) (.slice Ao29 t373.length co29)) (fun _ hk => hk.2) (.slice Ao30 t376.length co30)) (fun _ h_ => h_.1)))); (case side4 => exact (Kd.R_reads' HO378.out).2.1); rintro e w31 ⟨rfl, hb⟩; refine ⟨_, rfl, ?_⟩; replace HO375 := Aside0.mk (Kd.R_below (by (with_reducible repeat (first | apply Kd.R_alloc | apply Kd.R_drewN | apply Kd.R_drew)); exact (Kd.R_mono (Kd.R_far (p := ⟨gb379, 2, none⟩) (Kd.R_far (p := ⟨gb379, 1, none⟩) (Kd.R_far (p := ⟨gb379, 0, none⟩) (Kd.R_types HO375.out BK379.out (by decide)) (fun _ hk => hk.2) (.string t372)) (fun _ hk => hk.2) (.slice Ao29 t373.length co29)) (fun _ hk => hk.2) (.slice Ao30 t376.length co30)) (fun _ h_ => h_.1))) hb); replace HO378 := Aside0.mk (Kd.R_below (by (with_reducible repeat (first | apply Kd.R_alloc | apply Kd.R_drewN | apply Kd.R_drew)); exact (Kd.R_mono (Kd.R_far (p := ⟨gb379, 2, none⟩) (Kd.R_far (p := ⟨gb379, 1, none⟩) (Kd.R_far (p := ⟨gb379, 0, none⟩) (Kd.R_mono HO378.out (fun k_ hk => (⟨hk, hk.2⟩ : _ ∧ k_ ≠ gb379))) (fun _ hk => hk.2) (.string t372)) (fun _ hk => hk.2) (.slice Ao29 t373.length co29)) (fun _ hk => hk.2) (.slice Ao30 t376.length co30)) (fun _ h_ => h_.1))) hb); replace BK368 := Aside0.mk (blk_below (g := gb368) (o := .cells #[.string a0_0, .slice A0_1 l0_1.length c0_1, .slice A0_2 l0_2.length c0_2] 25 (0, 0)) (by (with_reducible repeat (first | refine blk_drewN ?_ _ | refine blk_drew ?_ | refine blk_alloc ?_ _)); refine blk_far ?_ NB368_379.out _; (with_reducible repeat (first | refine blk_drewN ?_ _ | refine blk_drew ?_ | refine blk_alloc ?_ _)); refine blk_far ?_ NB368_379.out _; (with_reducible repeat (first | refine blk_drewN ?_ _ | refine blk_drew ?_ | refine blk_alloc ?_ _)); refine blk_far ?_ NB368_379.out _; (with_reducible repeat (first | refine blk_drewN ?_ _ | refine blk_drew ?_ | refine blk_alloc ?_ _)); exact BK368.out) hb); replace BK379 := Aside0.mk (blk_below (g := gb379) (o := .cells #[.string t372, .slice Ao29 t373.length co29, .slice Ao30 t376.length co30] 31 (0, 0)) (by (with_reducible repeat (first | refine blk_drewN ?_ _ | refine blk_drew ?_ | refine blk_alloc ?_ _)); refine blk_put (cs := #[.string t372, .slice Ao29 t373.length co29, .slice none 0 0]) ?_ 2 _ rfl; (with_reducible repeat (first | refine blk_drewN ?_ _ | refine blk_drew ?_ | refine blk_alloc ?_ _)); refine blk_put (cs := #[.string t372, .slice none 0 0, .slice none 0 0]) ?_ 1 _ rfl; (with_reducible repeat (first | refine blk_drewN ?_ _ | refine blk_drew ?_ | refine blk_alloc ?_ _)); refine blk_put (cs := #[.string (⟨#[]⟩ : ByteArray), .slice none 0 0, .slice none 0 0]) ?_ 0 _ rfl; (with_reducible repeat (first | refine blk_drewN ?_ _ | refine blk_drew ?_ | refine blk_alloc ?_ _)); exact BK379.out) hb); replace HB := zw hb; (try clear hb); have hcz32_0 := zc0 BK368; have hcz32_1 := zc1 BK368; have hcz32_2 := zc2 BK368; have hfz32_0 := zf BK368 0; have hfz32_1 := zf BK368 1; have hfz32_2 := zf BK368 2) | ((with_reducible refine gate_callee (f := 10) rfl ?_); refine goesL_ (some 25) rfl rfl Tryz.func10 (by kernel_rfl) rfl #[.agg #[.string a0_0, .slice A0_1 l0_1.length c0_1, .slice A0_2 l0_2.length c0_2]] rfl zA ?_; (with_reducible refine (trystref08_PrintTree.calls kj1 a0_0 _ _ l0_1 _ _ l0_2 t382 t383 _ zG ?side1 ?side2 ?side3 ?side4 A16.out).mono ?_); (case side1 => exact Kd.C_below (Kd.C_below HR0_1.out HB.out) zX); (case side2 => exact HC0_1.out); (case side3 => exact Kd.C_below (Kd.C_below HR0_2.out HB.out) zX); (case side4 => exact HC0_2.out); rintro e w33 ⟨rfl, hb⟩; refine ⟨_, rfl, ?_⟩; replace HO375 := Aside0.mk (Kd.R_below (Kd.R_below HO375.out zX) hb); replace HO378 := Aside0.mk (Kd.R_below (Kd.R_below HO378.out zX) hb); replace BK368 := zb BK368 hb; replace BK379 := zb BK379 hb; replace HB := zw hb; (try clear hb)))
       replace HO375 := Aside0.mk (Kd.R_drew HO375.out); replace HO378 := Aside0.mk (Kd.R_drew HO378.out); replace BK368 := Aside0.mk (blk_drew BK368.out); replace BK379 := Aside0.mk (blk_drew BK379.out); replace HB := Aside0.mk (below_drew1 HB.out)
       refine start_ (n := 23) (S := fun w' => w'.cell? ⟨gb379, 0, none⟩ = some (.string t372) ∧ w'.cell? ⟨gb379, 1, none⟩ = some (.slice Ao29 t373.length co29) ∧ w'.cell? ⟨gb379, 2, none⟩ = some (.slice Ao30 t376.length co30) ∧ w'.cell? ⟨gb368, 0, none⟩ = some (.string a0_0) ∧ w'.cell? ⟨gb368, 1, none⟩ = some (.slice A0_1 l0_1.length c0_1) ∧ w'.cell? ⟨gb368, 2, none⟩ = some (.slice A0_2 l0_2.length c0_2)) (ds := []) (bs 23 0) (by kernel_rfl) rfl rfl ⟨(blk_cell BK379.out 0).trans rfl, (blk_cell BK379.out 1).trans rfl, (blk_cell BK379.out 2).trans rfl, (blk_cell BK368.out 0).trans rfl, (blk_cell BK368.out 1).trans rfl, (blk_cell BK368.out 2).trans rfl⟩ (fun hHeld => ?_); refine with_tabW trystlaw11_TreePrints.tab6 trystlaw11_TreePrints.bits6 (fun HT_ HW_ => ?_); generalize w33.drew = w34 at HO375 HO378 BK368 BK379 HB hHeld ⊢; refine zp 0 28 (bs 23 1) ?_; refine zp 1 29 (bs 23 3) ?_
       refine zp 2 30 (bs 23 7) ?_; refine zp 3 31 (bs 23 15) ?_; refine zp 4 32 (bs 23 31) ?_; refine zp 5 33 (bs 23 63) ?_; refine zp 6 34 (bs 23 127) ?_; refine zp 7 35 (bs 23 255) ?_; refine zp 8 36 (bs 23 511) ?_; refine zt 9 37 (bs 23 1023) ?_; refine zt 11 39 (bs 23 3071) ?_; refine one_ (i := 10) (N := some 38) (bs 23 4095) rfl rfl (one_of HT_.out (by kernel_rfl)) (by decide) (fun K hK => ?_); refine goes_ Tryz.func11 (by kernel_rfl) rfl #[.agg #[.string t372, .slice Ao29 t373.length co29, .slice Ao30 t376.length co30]] (by rfl) rfl rfl zA ?_
       with_reducible refine (tree_Formed.calls kj1 t372 _ _ t373 _ _ t376 t384 _ zG ?side1 ?side2 ?side3 ?side4 A19.out).mono ?_
       (case side1 => exact Kd.C_below (Kd.R_reads' HO375.out).2.2 zX)
       (case side2 => exact (Kd.R_reads' HO375.out).2.1)
       (case side3 => exact Kd.C_below (Kd.R_reads' HO378.out).2.2 zX)
       (case side4 => exact (Kd.R_reads' HO378.out).2.1)
       rintro e w35 ⟨rfl, hb⟩; refine ⟨_, rfl, ?_⟩; replace HO375 := Aside0.mk (Kd.R_below (Kd.R_below HO375.out zX) hb); replace HO378 := Aside0.mk (Kd.R_below (Kd.R_below HO378.out zX) hb); replace BK368 := zb BK368 hb; replace BK379 := zb BK379 hb; replace HB := zw hb; (try clear hb); (try clear hb2); (try clear hk); (try clear hi); refine hK.out _ _ ⟨(blk_cell BK379.out 0).trans rfl, (blk_cell BK379.out 1).trans rfl, (blk_cell BK379.out 2).trans rfl, (blk_cell BK368.out 0).trans rfl, (blk_cell BK368.out 1).trans rfl, (blk_cell BK368.out 2).trans rfl⟩ (fun hHeld => ?_); clear hK K; refine zr ?_
       refine one_ (i := 12) (N := some 40) (bs 23 8191) rfl rfl (one_of HT_.out (by kernel_rfl)) (by decide) (fun K hK => ?_); refine goes_ Tryz.func12 (by kernel_rfl) rfl #[.agg #[.string a0_0, .slice A0_1 l0_1.length c0_1, .slice A0_2 l0_2.length c0_2]] (by rfl) rfl rfl zA ?_
       with_reducible refine (trystref08_FormedTree.calls kj1 a0_0 _ _ l0_1 _ _ l0_2 t385 _ zG ?side1 ?side2 ?side3 ?side4 A20.out).mono ?_
       (case side1 => exact Kd.C_below (Kd.C_below HR0_1.out HB.out) zX)
       (case side2 => exact HC0_1.out)
       (case side3 => exact Kd.C_below (Kd.C_below HR0_2.out HB.out) zX)
       (case side4 => exact HC0_2.out)
       rintro e w36 ⟨rfl, hb⟩; refine ⟨_, rfl, ?_⟩; replace HO375 := Aside0.mk (Kd.R_below (Kd.R_below HO375.out zX) hb); replace HO378 := Aside0.mk (Kd.R_below (Kd.R_below HO378.out zX) hb); replace BK368 := zb BK368 hb; replace BK379 := zb BK379 hb; replace HB := zw hb; (try clear hb); (try clear hb2); (try clear hk); (try clear hi); refine hK.out _ _ ⟨(blk_cell BK379.out 0).trans rfl, (blk_cell BK379.out 1).trans rfl, (blk_cell BK379.out 2).trans rfl, (blk_cell BK368.out 0).trans rfl, (blk_cell BK368.out 1).trans rfl, (blk_cell BK368.out 2).trans rfl⟩ (fun hHeld => ?_); clear hK K; refine zr ?_
       refine zp 13 41 (bs 23 16383) ?_; refine zp 14 42 (bs 23 32767) ?_; refine zp 15 43 (bs 23 65535) ?_; refine zt 16 44 (bs 23 131071) ?_; refine zt 18 46 (bs 23 393215) ?_; refine one_ (i := 17) (N := some 45) (bs 23 524287) rfl rfl (one_of HT_.out (by kernel_rfl)) (by decide) (fun K hK => ?_); refine goes_ Tryz.func13 (by kernel_rfl) rfl #[.agg #[.string t372, .slice Ao29 t373.length co29, .slice Ao30 t376.length co30]] (by rfl) rfl rfl zA ?_
       with_reducible refine (tree_Count.calls kj1 t372 _ _ t373 _ _ t376 t386 _ zG ?side1 ?side2 ?side3 ?side4 A22.out).mono ?_
       (case side1 => exact Kd.C_below (Kd.R_reads' HO375.out).2.2 zX)
       (case side2 => exact (Kd.R_reads' HO375.out).2.1)
       (case side3 => exact Kd.C_below (Kd.R_reads' HO378.out).2.2 zX)
       (case side4 => exact (Kd.R_reads' HO378.out).2.1)
       rintro e w37 ⟨rfl, hb⟩; refine ⟨_, rfl, ?_⟩; replace HO375 := Aside0.mk (Kd.R_below (Kd.R_below HO375.out zX) hb); replace HO378 := Aside0.mk (Kd.R_below (Kd.R_below HO378.out zX) hb); replace BK368 := zb BK368 hb; replace BK379 := zb BK379 hb; replace HB := zw hb; (try clear hb); (try clear hb2); (try clear hk); (try clear hi); refine hK.out _ _ ⟨(blk_cell BK379.out 0).trans rfl, (blk_cell BK379.out 1).trans rfl, (blk_cell BK379.out 2).trans rfl, (blk_cell BK368.out 0).trans rfl, (blk_cell BK368.out 1).trans rfl, (blk_cell BK368.out 2).trans rfl⟩ (fun hHeld => ?_); clear hK K; refine zr ?_
       refine one_ (i := 19) (N := some 47) (bs 23 1048575) rfl rfl (one_of HT_.out (by kernel_rfl)) (by decide) (fun K hK => ?_); refine goes_ Tryz.func14 (by kernel_rfl) rfl #[.agg #[.string a0_0, .slice A0_1 l0_1.length c0_1, .slice A0_2 l0_2.length c0_2]] (by rfl) rfl rfl zA ?_
       with_reducible refine (trystref08_Count.calls kj1 a0_0 _ _ l0_1 _ _ l0_2 t387 _ zG ?side1 ?side2 ?side3 ?side4 A23.out).mono ?_
       (case side1 => exact Kd.C_below (Kd.C_below HR0_1.out HB.out) zX)
       (case side2 => exact HC0_1.out)
       (case side3 => exact Kd.C_below (Kd.C_below HR0_2.out HB.out) zX)
       (case side4 => exact HC0_2.out)
       rintro e w38 ⟨rfl, hb⟩; refine ⟨_, rfl, ?_⟩; replace HO375 := Aside0.mk (Kd.R_below (Kd.R_below HO375.out zX) hb); replace HO378 := Aside0.mk (Kd.R_below (Kd.R_below HO378.out zX) hb); replace BK368 := zb BK368 hb; replace BK379 := zb BK379 hb; replace HB := zw hb; (try clear hb); (try clear hb2); (try clear hk); (try clear hi); refine hK.out _ _ ⟨(blk_cell BK379.out 0).trans rfl, (blk_cell BK379.out 1).trans rfl, (blk_cell BK379.out 2).trans rfl, (blk_cell BK368.out 0).trans rfl, (blk_cell BK368.out 1).trans rfl, (blk_cell BK368.out 2).trans rfl⟩ (fun hHeld => ?_); clear hK K; refine zr ?_
       refine zp 20 48 (bs 23 2097151) ?_; refine zp 21 49 (bs 23 4194303) ?_; refine zp 22 2 (bs 23 8388607) ?_; refine done_ (done_of HT_.out (by kernel_rfl)) ?_
       try go_wp2
       go_ret; exact ⟨zE, zB⟩
      ·have c21b0 : (t384 == t385) = false := by simpa using c21
       (try (have c21b1 : decide (t384 = t385) = false := by simpa using c21)); (try (have c21b2 : (t384 == t385) = false := by simpa using c21)); (try (have c21b3 : ¬ (t384 = t385) := by simpa using c21)); clear c21; obtain rfl := Option.some.inj H; have hcz39_0 := zc0 BK368; have hcz39_1 := zc1 BK368; have hcz39_2 := zc2 BK368; have hfz39_0 := zf BK368 0; have hfz39_1 := zf BK368 1; have hfz39_2 := zf BK368 2
       try go_wp2_with (first | ((with_reducible refine gate_callee (f := 8) rfl ?_); refine goesL_ (some 17) rfl rfl Tryz.func8 (by kernel_rfl) rfl #[.agg #[.string a0_0, .slice A0_1 l0_1.length c0_1, .slice A0_2 l0_2.length c0_2]] rfl zA ?_; (with_reducible refine (trystlaw11_Theirs.calls kj1 a0_0 _ _ l0_1 _ _ l0_2 t372 t373 t376 _ zG ?side1 ?side2 ?side3 ?side4 A14.out).mono ?_); (case side1 => exact Kd.C_below (Kd.C_below HR0_1.out HB.out) zX); (case side2 => exact HC0_1.out); (case side3 => exact Kd.C_below (Kd.C_below HR0_2.out HB.out) zX); (case side4 => exact HC0_2.out); rintro e w40 ⟨v374, v377, rfl, ho0, ho1, hb⟩; refine ⟨_, rfl, ?_⟩; replace HO375 := Aside0.mk (Kd.R_lower ho0 (below_size zB)); replace HO378 := Aside0.mk (Kd.R_lower ho1 (below_size zB)); replace BK368 := zb BK368 hb; replace HB := zw hb; (try clear hb); (try clear ho0); (try clear ho1)) | ((with_reducible refine gate_dst (N := 3) rfl ?_); refine zbox (N := 3) #[.string (⟨#[]⟩ : ByteArray), .slice none 0 0, .slice none 0 0] 31 (fun gb379 hg w41 hbox hb => ?_); replace HO375 := Aside0.mk (Kd.R_below (Kd.R_below HO375.out zX) hb); replace HO378 := Aside0.mk (Kd.R_below (Kd.R_elderB (Kd.R_below HO378.out zX) gb379 (Nat.le_of_eq hg.symm)) hb); replace BK379 := Aside0.mk hbox; replace GW379 := zg w hg; replace GE379 := zg w hg; replace HB := zw hb; replace NB368_379 := zn BK368 hg; replace NB379_368 := zm BK368 hg; replace BK368 := zb BK368 hb; clear hb hbox hg; have hnb42 := NB379_368.out; have hnc42 := NB368_379.out; have hcz43_0 := zc0 BK379; have hcz43_1 := zc1 BK379; have hcz43_2 := zc2 BK379; have hfz43_0 := zf BK379 0; have hfz43_1 := zf BK379 1; have hfz43_2 := zf BK379 2; obtain ⟨Ao44, co44, eo44⟩ := Kd.R_slice HO375.out; subst eo44; obtain ⟨Ao45, co45, eo45⟩ := Kd.R_slice HO378.out; subst eo45) | ((with_reducible refine gate_callee (f := 9) rfl ?_); refine goesL_ (some 20) rfl rfl Tryz.func9 (by kernel_rfl) rfl #[.agg #[.string t372, .slice Ao44 t373.length co44, .slice Ao45 t376.length co45]] rfl zA ?_; (with_reducible refine (tree_Print.calls kj1 t372 _ _ t373 _ _ t376 t380 t381 _ zG ?side1 ?side2 ?side3 ?side4 A15.out).mono ?_); (case side1 => refine (Kd.R_reads' (e := 49) (base := w.heap.size) (ok := fun k_ => True) (n := t373.length) (c := co44) ?_).2.2; exact (by (with_reducible repeat (first | apply Kd.R_alloc | apply Kd.R_drewN | apply Kd.R_drew)); exact (Kd.R_mono (Kd.R_far (p := ⟨gb379, 2, none⟩) (Kd.R_far (p := ⟨gb379, 1, none⟩) (Kd.R_far (p := ⟨gb379, 0, none⟩) (Kd.R_types HO375.out BK379.out (by decide)) (fun _ hk => hk.2) (.string t372)) (fun _ hk => hk.2) (.slice Ao44 t373.length co44)) (fun _ hk => hk.2) (.slice Ao45 t376.length co45)) (fun _ h_ => h_.1)))); (case side2 => exact (Kd.R_reads' HO375.out).2.1); (case side3 => refine (Kd.R_reads' (e := 31) (base := w.heap.size) (ok := fun k_ => (some k_ ≠ (.slice Ao44 t373.length co44 : Value).ownBlock ∧ k_ ≠ gb379)) (n := t376.length) (c := co45) ?_).2.2; exact (by (with_reducible repeat (first | apply Kd.R_alloc | apply Kd.R_drewN | apply Kd.R_drew)); exact (Kd.R_mono (Kd.R_far (p := ⟨gb379, 2, none⟩) (Kd.R_far (p := ⟨gb379, 1, none⟩) (Kd.R_far (p := ⟨gb379, 0, none⟩) (Kd.R_mono HO378.out (fun k_ hk => (⟨hk, hk.2⟩ : _ ∧ k_ ≠ gb379))) (fun _ hk => hk.2) (.string t372)) (fun _ hk => hk.2) (.slice Ao44 t373.length co44)) (fun _ hk => hk.2) (.slice Ao45 t376.length co45)) (fun _ h_ => h_.1)))); (case side4 => exact (Kd.R_reads' HO378.out).2.1); rintro e w46 ⟨rfl, hb⟩; refine ⟨_, rfl, ?_⟩; replace HO375 := Aside0.mk (Kd.R_below (by (with_reducible repeat (first | apply Kd.R_alloc | apply Kd.R_drewN | apply Kd.R_drew)); exact (Kd.R_mono (Kd.R_far (p := ⟨gb379, 2, none⟩) (Kd.R_far (p := ⟨gb379, 1, none⟩) (Kd.R_far (p := ⟨gb379, 0, none⟩) (Kd.R_types HO375.out BK379.out (by decide)) (fun _ hk => hk.2) (.string t372)) (fun _ hk => hk.2) (.slice Ao44 t373.length co44)) (fun _ hk => hk.2) (.slice Ao45 t376.length co45)) (fun _ h_ => h_.1))) hb); replace HO378 := Aside0.mk (Kd.R_below (by (with_reducible repeat (first | apply Kd.R_alloc | apply Kd.R_drewN | apply Kd.R_drew)); exact (Kd.R_mono (Kd.R_far (p := ⟨gb379, 2, none⟩) (Kd.R_far (p := ⟨gb379, 1, none⟩) (Kd.R_far (p := ⟨gb379, 0, none⟩) (Kd.R_mono HO378.out (fun k_ hk => (⟨hk, hk.2⟩ : _ ∧ k_ ≠ gb379))) (fun _ hk => hk.2) (.string t372)) (fun _ hk => hk.2) (.slice Ao44 t373.length co44)) (fun _ hk => hk.2) (.slice Ao45 t376.length co45)) (fun _ h_ => h_.1))) hb); replace BK368 := Aside0.mk (blk_below (g := gb368) (o := .cells #[.string a0_0, .slice A0_1 l0_1.length c0_1, .slice A0_2 l0_2.length c0_2] 25 (0, 0)) (by (with_reducible repeat (first | refine blk_drewN ?_ _ | refine blk_drew ?_ | refine blk_alloc ?_ _)); refine blk_far ?_ NB368_379.out _; (with_reducible repeat (first | refine blk_drewN ?_ _ | refine blk_drew ?_ | refine blk_alloc ?_ _)); refine blk_far ?_ NB368_379.out _; (with_reducible repeat (first | refine blk_drewN ?_ _ | refine blk_drew ?_ | refine blk_alloc ?_ _)); refine blk_far ?_ NB368_379.out _; (with_reducible repeat (first | refine blk_drewN ?_ _ | refine blk_drew ?_ | refine blk_alloc ?_ _)); exact BK368.out) hb); replace BK379 := Aside0.mk (blk_below (g := gb379) (o := .cells #[.string t372, .slice Ao44 t373.length co44, .slice Ao45 t376.length co45] 31 (0, 0)) (by (with_reducible repeat (first | refine blk_drewN ?_ _ | refine blk_drew ?_ | refine blk_alloc ?_ _)); refine blk_put (cs := #[.string t372, .slice Ao44 t373.length co44, .slice none 0 0]) ?_ 2 _ rfl; (with_reducible repeat (first | refine blk_drewN ?_ _ | refine blk_drew ?_ | refine blk_alloc ?_ _)); refine blk_put (cs := #[.string t372, .slice none 0 0, .slice none 0 0]) ?_ 1 _ rfl; (with_reducible repeat (first | refine blk_drewN ?_ _ | refine blk_drew ?_ | refine blk_alloc ?_ _)); refine blk_put (cs := #[.string (⟨#[]⟩ : ByteArray), .slice none 0 0, .slice none 0 0]) ?_ 0 _ rfl; (with_reducible repeat (first | refine blk_drewN ?_ _ | refine blk_drew ?_ | refine blk_alloc ?_ _)); exact BK379.out) hb); replace HB := zw hb; (try clear hb); have hcz47_0 := zc0 BK368; have hcz47_1 := zc1 BK368; have hcz47_2 := zc2 BK368; have hfz47_0 := zf BK368 0; have hfz47_1 := zf BK368 1; have hfz47_2 := zf BK368 2) | ((with_reducible refine gate_callee (f := 10) rfl ?_); refine goesL_ (some 25) rfl rfl Tryz.func10 (by kernel_rfl) rfl #[.agg #[.string a0_0, .slice A0_1 l0_1.length c0_1, .slice A0_2 l0_2.length c0_2]] rfl zA ?_; (with_reducible refine (trystref08_PrintTree.calls kj1 a0_0 _ _ l0_1 _ _ l0_2 t382 t383 _ zG ?side1 ?side2 ?side3 ?side4 A16.out).mono ?_); (case side1 => exact Kd.C_below (Kd.C_below HR0_1.out HB.out) zX); (case side2 => exact HC0_1.out); (case side3 => exact Kd.C_below (Kd.C_below HR0_2.out HB.out) zX); (case side4 => exact HC0_2.out); rintro e w48 ⟨rfl, hb⟩; refine ⟨_, rfl, ?_⟩; replace HO375 := Aside0.mk (Kd.R_below (Kd.R_below HO375.out zX) hb); replace HO378 := Aside0.mk (Kd.R_below (Kd.R_below HO378.out zX) hb); replace BK368 := zb BK368 hb; replace BK379 := zb BK379 hb; replace HB := zw hb; (try clear hb)))
       replace HO375 := Aside0.mk (Kd.R_drew HO375.out); replace HO378 := Aside0.mk (Kd.R_drew HO378.out); replace BK368 := Aside0.mk (blk_drew BK368.out); replace BK379 := Aside0.mk (blk_drew BK379.out); replace HB := Aside0.mk (below_drew1 HB.out)
       refine start_ (n := 23) (S := fun w' => w'.cell? ⟨gb379, 0, none⟩ = some (.string t372) ∧ w'.cell? ⟨gb379, 1, none⟩ = some (.slice Ao44 t373.length co44) ∧ w'.cell? ⟨gb379, 2, none⟩ = some (.slice Ao45 t376.length co45) ∧ w'.cell? ⟨gb368, 0, none⟩ = some (.string a0_0) ∧ w'.cell? ⟨gb368, 1, none⟩ = some (.slice A0_1 l0_1.length c0_1) ∧ w'.cell? ⟨gb368, 2, none⟩ = some (.slice A0_2 l0_2.length c0_2)) (ds := []) (bs 23 0) (by kernel_rfl) rfl rfl ⟨(blk_cell BK379.out 0).trans rfl, (blk_cell BK379.out 1).trans rfl, (blk_cell BK379.out 2).trans rfl, (blk_cell BK368.out 0).trans rfl, (blk_cell BK368.out 1).trans rfl, (blk_cell BK368.out 2).trans rfl⟩ (fun hHeld => ?_); refine with_tabW trystlaw11_TreePrints.tab6 trystlaw11_TreePrints.bits6 (fun HT_ HW_ => ?_); generalize w48.drew = w49 at HO375 HO378 BK368 BK379 HB hHeld ⊢; refine zp 0 28 (bs 23 1) ?_; refine zp 1 29 (bs 23 3) ?_
       refine zp 2 30 (bs 23 7) ?_; refine zp 3 31 (bs 23 15) ?_; refine zp 4 32 (bs 23 31) ?_; refine zp 5 33 (bs 23 63) ?_; refine zp 6 34 (bs 23 127) ?_; refine zp 7 35 (bs 23 255) ?_; refine zp 8 36 (bs 23 511) ?_; refine zt 9 37 (bs 23 1023) ?_; refine zt 11 39 (bs 23 3071) ?_; refine one_ (i := 10) (N := some 38) (bs 23 4095) rfl rfl (one_of HT_.out (by kernel_rfl)) (by decide) (fun K hK => ?_); refine goes_ Tryz.func11 (by kernel_rfl) rfl #[.agg #[.string t372, .slice Ao44 t373.length co44, .slice Ao45 t376.length co45]] (by rfl) rfl rfl zA ?_
       with_reducible refine (tree_Formed.calls kj1 t372 _ _ t373 _ _ t376 t384 _ zG ?side1 ?side2 ?side3 ?side4 A19.out).mono ?_
       (case side1 => exact Kd.C_below (Kd.R_reads' HO375.out).2.2 zX)
       (case side2 => exact (Kd.R_reads' HO375.out).2.1)
       (case side3 => exact Kd.C_below (Kd.R_reads' HO378.out).2.2 zX)
       (case side4 => exact (Kd.R_reads' HO378.out).2.1)
       rintro e w50 ⟨rfl, hb⟩; refine ⟨_, rfl, ?_⟩; replace HO375 := Aside0.mk (Kd.R_below (Kd.R_below HO375.out zX) hb); replace HO378 := Aside0.mk (Kd.R_below (Kd.R_below HO378.out zX) hb); replace BK368 := zb BK368 hb; replace BK379 := zb BK379 hb; replace HB := zw hb; (try clear hb); (try clear hb2); (try clear hk); (try clear hi); refine hK.out _ _ ⟨(blk_cell BK379.out 0).trans rfl, (blk_cell BK379.out 1).trans rfl, (blk_cell BK379.out 2).trans rfl, (blk_cell BK368.out 0).trans rfl, (blk_cell BK368.out 1).trans rfl, (blk_cell BK368.out 2).trans rfl⟩ (fun hHeld => ?_); clear hK K; refine zr ?_
       refine one_ (i := 12) (N := some 40) (bs 23 8191) rfl rfl (one_of HT_.out (by kernel_rfl)) (by decide) (fun K hK => ?_); refine goes_ Tryz.func12 (by kernel_rfl) rfl #[.agg #[.string a0_0, .slice A0_1 l0_1.length c0_1, .slice A0_2 l0_2.length c0_2]] (by rfl) rfl rfl zA ?_
       with_reducible refine (trystref08_FormedTree.calls kj1 a0_0 _ _ l0_1 _ _ l0_2 t385 _ zG ?side1 ?side2 ?side3 ?side4 A20.out).mono ?_
       (case side1 => exact Kd.C_below (Kd.C_below HR0_1.out HB.out) zX)
       (case side2 => exact HC0_1.out)
       (case side3 => exact Kd.C_below (Kd.C_below HR0_2.out HB.out) zX)
       (case side4 => exact HC0_2.out)
       rintro e w51 ⟨rfl, hb⟩; refine ⟨_, rfl, ?_⟩; replace HO375 := Aside0.mk (Kd.R_below (Kd.R_below HO375.out zX) hb); replace HO378 := Aside0.mk (Kd.R_below (Kd.R_below HO378.out zX) hb); replace BK368 := zb BK368 hb; replace BK379 := zb BK379 hb; replace HB := zw hb; (try clear hb); (try clear hb2); (try clear hk); (try clear hi); refine hK.out _ _ ⟨(blk_cell BK379.out 0).trans rfl, (blk_cell BK379.out 1).trans rfl, (blk_cell BK379.out 2).trans rfl, (blk_cell BK368.out 0).trans rfl, (blk_cell BK368.out 1).trans rfl, (blk_cell BK368.out 2).trans rfl⟩ (fun hHeld => ?_); clear hK K; refine zr ?_
       refine zp 13 41 (bs 23 16383) ?_; refine zp 14 42 (bs 23 32767) ?_; refine zp 15 43 (bs 23 65535) ?_; refine zu 16 44 (bs 23 131071) ?_; refine zu 17 45 (bs 23 262143) ?_; refine zu 18 46 (bs 23 524287) ?_; refine zu 19 47 (bs 23 1048575) ?_; refine zu 20 48 (bs 23 2097151) ?_; refine zp 21 49 (bs 23 4194303) ?_; refine zp 22 2 (bs 23 8388607) ?_; refine done_ (done_of HT_.out (by kernel_rfl)) ?_
       try go_wp2
       go_ret; exact ⟨zE, zB⟩
     ·obtain rfl := Option.some.inj H; have hcz52_0 := zc0 BK368; have hcz52_1 := zc1 BK368; have hcz52_2 := zc2 BK368; have hfz52_0 := zf BK368 0; have hfz52_1 := zf BK368 1; have hfz52_2 := zf BK368 2
      try go_wp2_with (first | ((with_reducible refine gate_callee (f := 8) rfl ?_); refine goesL_ (some 17) rfl rfl Tryz.func8 (by kernel_rfl) rfl #[.agg #[.string a0_0, .slice A0_1 l0_1.length c0_1, .slice A0_2 l0_2.length c0_2]] rfl zA ?_; (with_reducible refine (trystlaw11_Theirs.calls kj1 a0_0 _ _ l0_1 _ _ l0_2 t372 t373 t376 _ zG ?side1 ?side2 ?side3 ?side4 A14.out).mono ?_); (case side1 => exact Kd.C_below (Kd.C_below HR0_1.out HB.out) zX); (case side2 => exact HC0_1.out); (case side3 => exact Kd.C_below (Kd.C_below HR0_2.out HB.out) zX); (case side4 => exact HC0_2.out); rintro e w53 ⟨v374, v377, rfl, ho0, ho1, hb⟩; refine ⟨_, rfl, ?_⟩; replace HO375 := Aside0.mk (Kd.R_lower ho0 (below_size zB)); replace HO378 := Aside0.mk (Kd.R_lower ho1 (below_size zB)); replace BK368 := zb BK368 hb; replace HB := zw hb; (try clear hb); (try clear ho0); (try clear ho1)) | ((with_reducible refine gate_dst (N := 3) rfl ?_); refine zbox (N := 3) #[.string (⟨#[]⟩ : ByteArray), .slice none 0 0, .slice none 0 0] 31 (fun gb379 hg w54 hbox hb => ?_); replace HO375 := Aside0.mk (Kd.R_below (Kd.R_below HO375.out zX) hb); replace HO378 := Aside0.mk (Kd.R_below (Kd.R_elderB (Kd.R_below HO378.out zX) gb379 (Nat.le_of_eq hg.symm)) hb); replace BK379 := Aside0.mk hbox; replace GW379 := zg w hg; replace GE379 := zg w hg; replace HB := zw hb; replace NB368_379 := zn BK368 hg; replace NB379_368 := zm BK368 hg; replace BK368 := zb BK368 hb; clear hb hbox hg; have hnb55 := NB379_368.out; have hnc55 := NB368_379.out; have hcz56_0 := zc0 BK379; have hcz56_1 := zc1 BK379; have hcz56_2 := zc2 BK379; have hfz56_0 := zf BK379 0; have hfz56_1 := zf BK379 1; have hfz56_2 := zf BK379 2; obtain ⟨Ao57, co57, eo57⟩ := Kd.R_slice HO375.out; subst eo57; obtain ⟨Ao58, co58, eo58⟩ := Kd.R_slice HO378.out; subst eo58) | ((with_reducible refine gate_callee (f := 9) rfl ?_); refine goesL_ (some 20) rfl rfl Tryz.func9 (by kernel_rfl) rfl #[.agg #[.string t372, .slice Ao57 t373.length co57, .slice Ao58 t376.length co58]] rfl zA ?_; (with_reducible refine (tree_Print.calls kj1 t372 _ _ t373 _ _ t376 t380 t381 _ zG ?side1 ?side2 ?side3 ?side4 A15.out).mono ?_); (case side1 => refine (Kd.R_reads' (e := 49) (base := w.heap.size) (ok := fun k_ => True) (n := t373.length) (c := co57) ?_).2.2; exact (by (with_reducible repeat (first | apply Kd.R_alloc | apply Kd.R_drewN | apply Kd.R_drew)); exact (Kd.R_mono (Kd.R_far (p := ⟨gb379, 2, none⟩) (Kd.R_far (p := ⟨gb379, 1, none⟩) (Kd.R_far (p := ⟨gb379, 0, none⟩) (Kd.R_types HO375.out BK379.out (by decide)) (fun _ hk => hk.2) (.string t372)) (fun _ hk => hk.2) (.slice Ao57 t373.length co57)) (fun _ hk => hk.2) (.slice Ao58 t376.length co58)) (fun _ h_ => h_.1)))); (case side2 => exact (Kd.R_reads' HO375.out).2.1); (case side3 => refine (Kd.R_reads' (e := 31) (base := w.heap.size) (ok := fun k_ => (some k_ ≠ (.slice Ao57 t373.length co57 : Value).ownBlock ∧ k_ ≠ gb379)) (n := t376.length) (c := co58) ?_).2.2; exact (by (with_reducible repeat (first | apply Kd.R_alloc | apply Kd.R_drewN | apply Kd.R_drew)); exact (Kd.R_mono (Kd.R_far (p := ⟨gb379, 2, none⟩) (Kd.R_far (p := ⟨gb379, 1, none⟩) (Kd.R_far (p := ⟨gb379, 0, none⟩) (Kd.R_mono HO378.out (fun k_ hk => (⟨hk, hk.2⟩ : _ ∧ k_ ≠ gb379))) (fun _ hk => hk.2) (.string t372)) (fun _ hk => hk.2) (.slice Ao57 t373.length co57)) (fun _ hk => hk.2) (.slice Ao58 t376.length co58)) (fun _ h_ => h_.1)))); (case side4 => exact (Kd.R_reads' HO378.out).2.1); rintro e w59 ⟨rfl, hb⟩; refine ⟨_, rfl, ?_⟩; replace HO375 := Aside0.mk (Kd.R_below (by (with_reducible repeat (first | apply Kd.R_alloc | apply Kd.R_drewN | apply Kd.R_drew)); exact (Kd.R_mono (Kd.R_far (p := ⟨gb379, 2, none⟩) (Kd.R_far (p := ⟨gb379, 1, none⟩) (Kd.R_far (p := ⟨gb379, 0, none⟩) (Kd.R_types HO375.out BK379.out (by decide)) (fun _ hk => hk.2) (.string t372)) (fun _ hk => hk.2) (.slice Ao57 t373.length co57)) (fun _ hk => hk.2) (.slice Ao58 t376.length co58)) (fun _ h_ => h_.1))) hb); replace HO378 := Aside0.mk (Kd.R_below (by (with_reducible repeat (first | apply Kd.R_alloc | apply Kd.R_drewN | apply Kd.R_drew)); exact (Kd.R_mono (Kd.R_far (p := ⟨gb379, 2, none⟩) (Kd.R_far (p := ⟨gb379, 1, none⟩) (Kd.R_far (p := ⟨gb379, 0, none⟩) (Kd.R_mono HO378.out (fun k_ hk => (⟨hk, hk.2⟩ : _ ∧ k_ ≠ gb379))) (fun _ hk => hk.2) (.string t372)) (fun _ hk => hk.2) (.slice Ao57 t373.length co57)) (fun _ hk => hk.2) (.slice Ao58 t376.length co58)) (fun _ h_ => h_.1))) hb); replace BK368 := Aside0.mk (blk_below (g := gb368) (o := .cells #[.string a0_0, .slice A0_1 l0_1.length c0_1, .slice A0_2 l0_2.length c0_2] 25 (0, 0)) (by (with_reducible repeat (first | refine blk_drewN ?_ _ | refine blk_drew ?_ | refine blk_alloc ?_ _)); refine blk_far ?_ NB368_379.out _; (with_reducible repeat (first | refine blk_drewN ?_ _ | refine blk_drew ?_ | refine blk_alloc ?_ _)); refine blk_far ?_ NB368_379.out _; (with_reducible repeat (first | refine blk_drewN ?_ _ | refine blk_drew ?_ | refine blk_alloc ?_ _)); refine blk_far ?_ NB368_379.out _; (with_reducible repeat (first | refine blk_drewN ?_ _ | refine blk_drew ?_ | refine blk_alloc ?_ _)); exact BK368.out) hb); replace BK379 := Aside0.mk (blk_below (g := gb379) (o := .cells #[.string t372, .slice Ao57 t373.length co57, .slice Ao58 t376.length co58] 31 (0, 0)) (by (with_reducible repeat (first | refine blk_drewN ?_ _ | refine blk_drew ?_ | refine blk_alloc ?_ _)); refine blk_put (cs := #[.string t372, .slice Ao57 t373.length co57, .slice none 0 0]) ?_ 2 _ rfl; (with_reducible repeat (first | refine blk_drewN ?_ _ | refine blk_drew ?_ | refine blk_alloc ?_ _)); refine blk_put (cs := #[.string t372, .slice none 0 0, .slice none 0 0]) ?_ 1 _ rfl; (with_reducible repeat (first | refine blk_drewN ?_ _ | refine blk_drew ?_ | refine blk_alloc ?_ _)); refine blk_put (cs := #[.string (⟨#[]⟩ : ByteArray), .slice none 0 0, .slice none 0 0]) ?_ 0 _ rfl; (with_reducible repeat (first | refine blk_drewN ?_ _ | refine blk_drew ?_ | refine blk_alloc ?_ _)); exact BK379.out) hb); replace HB := zw hb; (try clear hb); have hcz60_0 := zc0 BK368; have hcz60_1 := zc1 BK368; have hcz60_2 := zc2 BK368; have hfz60_0 := zf BK368 0; have hfz60_1 := zf BK368 1; have hfz60_2 := zf BK368 2) | ((with_reducible refine gate_callee (f := 10) rfl ?_); refine goesL_ (some 25) rfl rfl Tryz.func10 (by kernel_rfl) rfl #[.agg #[.string a0_0, .slice A0_1 l0_1.length c0_1, .slice A0_2 l0_2.length c0_2]] rfl zA ?_; (with_reducible refine (trystref08_PrintTree.calls kj1 a0_0 _ _ l0_1 _ _ l0_2 t382 t383 _ zG ?side1 ?side2 ?side3 ?side4 A16.out).mono ?_); (case side1 => exact Kd.C_below (Kd.C_below HR0_1.out HB.out) zX); (case side2 => exact HC0_1.out); (case side3 => exact Kd.C_below (Kd.C_below HR0_2.out HB.out) zX); (case side4 => exact HC0_2.out); rintro e w61 ⟨rfl, hb⟩; refine ⟨_, rfl, ?_⟩; replace HO375 := Aside0.mk (Kd.R_below (Kd.R_below HO375.out zX) hb); replace HO378 := Aside0.mk (Kd.R_below (Kd.R_below HO378.out zX) hb); replace BK368 := zb BK368 hb; replace BK379 := zb BK379 hb; replace HB := zw hb; (try clear hb)))
      replace HO375 := Aside0.mk (Kd.R_drew HO375.out); replace HO378 := Aside0.mk (Kd.R_drew HO378.out); replace BK368 := Aside0.mk (blk_drew BK368.out); replace BK379 := Aside0.mk (blk_drew BK379.out); replace HB := Aside0.mk (below_drew1 HB.out); refine start_ (n := 23) (S := fun w' => True) (ds := []) (bs 23 0) (by kernel_rfl) rfl rfl trivial (fun hHeld => ?_); refine with_tabW trystlaw11_TreePrints.tab6 trystlaw11_TreePrints.bits6 (fun HT_ HW_ => ?_); generalize w61.drew = w62 at HO375 HO378 BK368 BK379 HB hHeld ⊢; refine zp 0 28 (bs 23 1) ?_; refine zp 1 29 (bs 23 3) ?_; refine zp 2 30 (bs 23 7) ?_; refine zp 3 31 (bs 23 15) ?_; refine zp 4 32 (bs 23 31) ?_; refine zp 5 33 (bs 23 63) ?_; refine zp 6 34 (bs 23 127) ?_
      refine zp 7 35 (bs 23 255) ?_; refine zp 8 36 (bs 23 511) ?_; refine zu 9 37 (bs 23 1023) ?_; refine zu 10 38 (bs 23 2047) ?_; refine zu 11 39 (bs 23 4095) ?_; refine zu 12 40 (bs 23 8191) ?_; refine zu 13 41 (bs 23 16383) ?_; refine zp 14 42 (bs 23 32767) ?_; refine zp 15 43 (bs 23 65535) ?_; refine zu 16 44 (bs 23 131071) ?_; refine zu 17 45 (bs 23 262143) ?_; refine zu 18 46 (bs 23 524287) ?_; refine zu 19 47 (bs 23 1048575) ?_; refine zu 20 48 (bs 23 2097151) ?_; refine zp 21 49 (bs 23 4194303) ?_; refine zp 22 2 (bs 23 8388607) ?_; refine done_ (done_of HT_.out (by kernel_rfl)) ?_
      try go_wp2
      go_ret; exact ⟨zE, zB⟩
    ·obtain rfl := Option.some.inj H; have hcz63_0 := zc0 BK368; have hcz63_1 := zc1 BK368; have hcz63_2 := zc2 BK368; have hfz63_0 := zf BK368 0; have hfz63_1 := zf BK368 1; have hfz63_2 := zf BK368 2
     try go_wp2_with (first | ((with_reducible refine gate_callee (f := 8) rfl ?_); refine goesL_ (some 17) rfl rfl Tryz.func8 (by kernel_rfl) rfl #[.agg #[.string a0_0, .slice A0_1 l0_1.length c0_1, .slice A0_2 l0_2.length c0_2]] rfl zA ?_; (with_reducible refine (trystlaw11_Theirs.calls kj1 a0_0 _ _ l0_1 _ _ l0_2 t372 t373 t376 _ zG ?side1 ?side2 ?side3 ?side4 A14.out).mono ?_); (case side1 => exact Kd.C_below (Kd.C_below HR0_1.out HB.out) zX); (case side2 => exact HC0_1.out); (case side3 => exact Kd.C_below (Kd.C_below HR0_2.out HB.out) zX); (case side4 => exact HC0_2.out); rintro e w64 ⟨v374, v377, rfl, ho0, ho1, hb⟩; refine ⟨_, rfl, ?_⟩; replace HO375 := Aside0.mk (Kd.R_lower ho0 (below_size zB)); replace HO378 := Aside0.mk (Kd.R_lower ho1 (below_size zB)); replace BK368 := zb BK368 hb; replace HB := zw hb; (try clear hb); (try clear ho0); (try clear ho1)) | ((with_reducible refine gate_dst (N := 3) rfl ?_); refine zbox (N := 3) #[.string (⟨#[]⟩ : ByteArray), .slice none 0 0, .slice none 0 0] 31 (fun gb379 hg w65 hbox hb => ?_); replace HO375 := Aside0.mk (Kd.R_below (Kd.R_below HO375.out zX) hb); replace HO378 := Aside0.mk (Kd.R_below (Kd.R_elderB (Kd.R_below HO378.out zX) gb379 (Nat.le_of_eq hg.symm)) hb); replace BK379 := Aside0.mk hbox; replace GW379 := zg w hg; replace GE379 := zg w hg; replace HB := zw hb; replace NB368_379 := zn BK368 hg; replace NB379_368 := zm BK368 hg; replace BK368 := zb BK368 hb; clear hb hbox hg; have hnb66 := NB379_368.out; have hnc66 := NB368_379.out; have hcz67_0 := zc0 BK379; have hcz67_1 := zc1 BK379; have hcz67_2 := zc2 BK379; have hfz67_0 := zf BK379 0; have hfz67_1 := zf BK379 1; have hfz67_2 := zf BK379 2; obtain ⟨Ao68, co68, eo68⟩ := Kd.R_slice HO375.out; subst eo68; obtain ⟨Ao69, co69, eo69⟩ := Kd.R_slice HO378.out; subst eo69) | ((with_reducible refine gate_callee (f := 9) rfl ?_); refine goesL_ (some 20) rfl rfl Tryz.func9 (by kernel_rfl) rfl #[.agg #[.string t372, .slice Ao68 t373.length co68, .slice Ao69 t376.length co69]] rfl zA ?_; (with_reducible refine (tree_Print.calls kj1 t372 _ _ t373 _ _ t376 t380 t381 _ zG ?side1 ?side2 ?side3 ?side4 A15.out).mono ?_); (case side1 => refine (Kd.R_reads' (e := 49) (base := w.heap.size) (ok := fun k_ => True) (n := t373.length) (c := co68) ?_).2.2; exact (by (with_reducible repeat (first | apply Kd.R_alloc | apply Kd.R_drewN | apply Kd.R_drew)); exact (Kd.R_mono (Kd.R_far (p := ⟨gb379, 2, none⟩) (Kd.R_far (p := ⟨gb379, 1, none⟩) (Kd.R_far (p := ⟨gb379, 0, none⟩) (Kd.R_types HO375.out BK379.out (by decide)) (fun _ hk => hk.2) (.string t372)) (fun _ hk => hk.2) (.slice Ao68 t373.length co68)) (fun _ hk => hk.2) (.slice Ao69 t376.length co69)) (fun _ h_ => h_.1)))); (case side2 => exact (Kd.R_reads' HO375.out).2.1); (case side3 => refine (Kd.R_reads' (e := 31) (base := w.heap.size) (ok := fun k_ => (some k_ ≠ (.slice Ao68 t373.length co68 : Value).ownBlock ∧ k_ ≠ gb379)) (n := t376.length) (c := co69) ?_).2.2; exact (by (with_reducible repeat (first | apply Kd.R_alloc | apply Kd.R_drewN | apply Kd.R_drew)); exact (Kd.R_mono (Kd.R_far (p := ⟨gb379, 2, none⟩) (Kd.R_far (p := ⟨gb379, 1, none⟩) (Kd.R_far (p := ⟨gb379, 0, none⟩) (Kd.R_mono HO378.out (fun k_ hk => (⟨hk, hk.2⟩ : _ ∧ k_ ≠ gb379))) (fun _ hk => hk.2) (.string t372)) (fun _ hk => hk.2) (.slice Ao68 t373.length co68)) (fun _ hk => hk.2) (.slice Ao69 t376.length co69)) (fun _ h_ => h_.1)))); (case side4 => exact (Kd.R_reads' HO378.out).2.1); rintro e w70 ⟨rfl, hb⟩; refine ⟨_, rfl, ?_⟩; replace HO375 := Aside0.mk (Kd.R_below (by (with_reducible repeat (first | apply Kd.R_alloc | apply Kd.R_drewN | apply Kd.R_drew)); exact (Kd.R_mono (Kd.R_far (p := ⟨gb379, 2, none⟩) (Kd.R_far (p := ⟨gb379, 1, none⟩) (Kd.R_far (p := ⟨gb379, 0, none⟩) (Kd.R_types HO375.out BK379.out (by decide)) (fun _ hk => hk.2) (.string t372)) (fun _ hk => hk.2) (.slice Ao68 t373.length co68)) (fun _ hk => hk.2) (.slice Ao69 t376.length co69)) (fun _ h_ => h_.1))) hb); replace HO378 := Aside0.mk (Kd.R_below (by (with_reducible repeat (first | apply Kd.R_alloc | apply Kd.R_drewN | apply Kd.R_drew)); exact (Kd.R_mono (Kd.R_far (p := ⟨gb379, 2, none⟩) (Kd.R_far (p := ⟨gb379, 1, none⟩) (Kd.R_far (p := ⟨gb379, 0, none⟩) (Kd.R_mono HO378.out (fun k_ hk => (⟨hk, hk.2⟩ : _ ∧ k_ ≠ gb379))) (fun _ hk => hk.2) (.string t372)) (fun _ hk => hk.2) (.slice Ao68 t373.length co68)) (fun _ hk => hk.2) (.slice Ao69 t376.length co69)) (fun _ h_ => h_.1))) hb); replace BK368 := Aside0.mk (blk_below (g := gb368) (o := .cells #[.string a0_0, .slice A0_1 l0_1.length c0_1, .slice A0_2 l0_2.length c0_2] 25 (0, 0)) (by (with_reducible repeat (first | refine blk_drewN ?_ _ | refine blk_drew ?_ | refine blk_alloc ?_ _)); refine blk_far ?_ NB368_379.out _; (with_reducible repeat (first | refine blk_drewN ?_ _ | refine blk_drew ?_ | refine blk_alloc ?_ _)); refine blk_far ?_ NB368_379.out _; (with_reducible repeat (first | refine blk_drewN ?_ _ | refine blk_drew ?_ | refine blk_alloc ?_ _)); refine blk_far ?_ NB368_379.out _; (with_reducible repeat (first | refine blk_drewN ?_ _ | refine blk_drew ?_ | refine blk_alloc ?_ _)); exact BK368.out) hb); replace BK379 := Aside0.mk (blk_below (g := gb379) (o := .cells #[.string t372, .slice Ao68 t373.length co68, .slice Ao69 t376.length co69] 31 (0, 0)) (by (with_reducible repeat (first | refine blk_drewN ?_ _ | refine blk_drew ?_ | refine blk_alloc ?_ _)); refine blk_put (cs := #[.string t372, .slice Ao68 t373.length co68, .slice none 0 0]) ?_ 2 _ rfl; (with_reducible repeat (first | refine blk_drewN ?_ _ | refine blk_drew ?_ | refine blk_alloc ?_ _)); refine blk_put (cs := #[.string t372, .slice none 0 0, .slice none 0 0]) ?_ 1 _ rfl; (with_reducible repeat (first | refine blk_drewN ?_ _ | refine blk_drew ?_ | refine blk_alloc ?_ _)); refine blk_put (cs := #[.string (⟨#[]⟩ : ByteArray), .slice none 0 0, .slice none 0 0]) ?_ 0 _ rfl; (with_reducible repeat (first | refine blk_drewN ?_ _ | refine blk_drew ?_ | refine blk_alloc ?_ _)); exact BK379.out) hb); replace HB := zw hb; (try clear hb); have hcz71_0 := zc0 BK368; have hcz71_1 := zc1 BK368; have hcz71_2 := zc2 BK368; have hfz71_0 := zf BK368 0; have hfz71_1 := zf BK368 1; have hfz71_2 := zf BK368 2) | ((with_reducible refine gate_callee (f := 10) rfl ?_); refine goesL_ (some 25) rfl rfl Tryz.func10 (by kernel_rfl) rfl #[.agg #[.string a0_0, .slice A0_1 l0_1.length c0_1, .slice A0_2 l0_2.length c0_2]] rfl zA ?_; (with_reducible refine (trystref08_PrintTree.calls kj1 a0_0 _ _ l0_1 _ _ l0_2 t382 t383 _ zG ?side1 ?side2 ?side3 ?side4 A16.out).mono ?_); (case side1 => exact Kd.C_below (Kd.C_below HR0_1.out HB.out) zX); (case side2 => exact HC0_1.out); (case side3 => exact Kd.C_below (Kd.C_below HR0_2.out HB.out) zX); (case side4 => exact HC0_2.out); rintro e w72 ⟨rfl, hb⟩; refine ⟨_, rfl, ?_⟩; replace HO375 := Aside0.mk (Kd.R_below (Kd.R_below HO375.out zX) hb); replace HO378 := Aside0.mk (Kd.R_below (Kd.R_below HO378.out zX) hb); replace BK368 := zb BK368 hb; replace BK379 := zb BK379 hb; replace HB := zw hb; (try clear hb)))
     replace HO375 := Aside0.mk (Kd.R_drew HO375.out); replace HO378 := Aside0.mk (Kd.R_drew HO378.out); replace BK368 := Aside0.mk (blk_drew BK368.out); replace BK379 := Aside0.mk (blk_drew BK379.out); replace HB := Aside0.mk (below_drew1 HB.out); refine start_ (n := 23) (S := fun w' => True) (ds := []) (bs 23 0) (by kernel_rfl) rfl rfl trivial (fun hHeld => ?_); refine with_tabW trystlaw11_TreePrints.tab6 trystlaw11_TreePrints.bits6 (fun HT_ HW_ => ?_); generalize w72.drew = w73 at HO375 HO378 BK368 BK379 HB hHeld ⊢; refine zp 0 28 (bs 23 1) ?_; refine zp 1 29 (bs 23 3) ?_; refine zp 2 30 (bs 23 7) ?_; refine zp 3 31 (bs 23 15) ?_; refine zu 4 32 (bs 23 31) ?_; refine zu 5 33 (bs 23 63) ?_; refine zu 6 34 (bs 23 127) ?_
     refine zp 7 35 (bs 23 255) ?_; refine zp 8 36 (bs 23 511) ?_; refine zu 9 37 (bs 23 1023) ?_; refine zu 10 38 (bs 23 2047) ?_; refine zu 11 39 (bs 23 4095) ?_; refine zu 12 40 (bs 23 8191) ?_; refine zu 13 41 (bs 23 16383) ?_; refine zp 14 42 (bs 23 32767) ?_; refine zp 15 43 (bs 23 65535) ?_; refine zu 16 44 (bs 23 131071) ?_; refine zu 17 45 (bs 23 262143) ?_; refine zu 18 46 (bs 23 524287) ?_; refine zu 19 47 (bs 23 1048575) ?_; refine zu 20 48 (bs 23 2097151) ?_; refine zp 21 49 (bs 23 4194303) ?_; refine zp 22 2 (bs 23 8388607) ?_; refine done_ (done_of HT_.out (by kernel_rfl)) ?_
     try go_wp2
     go_ret; exact ⟨zE, zB⟩
end Go.Proofs.YtdojmdbaiddkgaaGreatDoor.Print
end
section
set_option linter.unusedVariables false
set_option linter.unusedSimpArgs false
set_option linter.unusedSectionVars false
namespace Go.Proofs.YtdojmdbaiddkgaaGreatDoor.Pure
open Go.RowKit Go.Proofs.YtdojmdbaiddkgaaGreatDoor.Print Go.Proofs.YtdojmdbaiddkgaaGreatDoorW.PrintWords Go.Proofs.YtdojmdbaiddkgaaGreatDoorW.PrintLast
theorem few_line2 (nm v : ByteArray) (l : List RP) (hn : nm.size ≤ 140737488351232) (hv : v.size ≤ 140737488351232) (hs : ∀ p ∈ l, ParB' (toP p)) (hf : formR nm (l.map toP) v = true) :
    ∃ b, Ev (fun k => trystlaw10_Few.f k nm l v) b ∧ (b = true → nm.size + v.size + fewP l ≤ 5000) := by
  have h2 := formR_of hf
  have hp60 : ∀ p ∈ l, p.f1.length ≤ 60 := fun p hp => (parR_of (okPs_all _ [] h2.2.2.2 (toP p) (List.mem_map_of_mem hp))).2.2.1
  have hl60 : l.length ≤ 60 := by rw [← List.length_map (f := toP)]; exact h2.2.1
  have hfp := fewP_le l (fun p hp => ⟨hs p hp, hp60 p hp⟩)
  have hfp2 : l.length * 9000000000000000 ≤ 60 * 9000000000000000 := Nat.mul_le_mul_right _ hl60
  have := few_sum nm v l hl60 hp60 l.length 0 (nm.size + v.size) (by omega) (by rw [List.drop_zero]; omega)
  rw [List.drop_zero] at this
  exact ⟨_, Ev.congr (fun k => by unfold trystlaw10_Few.f; rw [wrapN _ _ (by omega)]; rfl) this, fun hb => by have hb := of_decide_eq_true hb; omega⟩
def goodL (x : RL) : Prop := x.f0.size + x.f2.size + fewP x.f1 ≤ 5000
mutual
def goodT : RT → Prop
  | ⟨_, l, k⟩ => (∀ x ∈ l, goodL x) ∧ goodTs k
def goodTs : List RT → Prop
  | [] => True
  | t :: r => goodT t ∧ goodTs r
end
theorem goodTs_all : ∀ l : List RT, goodTs l → ∀ t ∈ l, goodT t
  | [], _, t, ht => by simp at ht
  | x :: r, h, t, ht => by
    simp only [goodTs] at h
    rcases List.mem_cons.1 ht with rfl | ht
    · exact h.1
    · exact goodTs_all r h.2 t ht
theorem goodT_of {t : RT} (h : goodT t) : (∀ x ∈ t.f1, goodL x) ∧ ∀ x ∈ t.f2, goodT x := by
  obtain ⟨n, l, k⟩ := t
  simp only [goodT] at h
  exact ⟨h.1, goodTs_all k h.2⟩
theorem goodT_mk {t : RT} (h1 : ∀ x ∈ t.f1, goodL x) (h2 : goodTs t.f2) : goodT t := by
  obtain ⟨n, l, k⟩ := t
  simp only [goodT]
  exact ⟨h1, h2⟩
mutual
def nL : RT → Nat
  | ⟨_, l, k⟩ => 2 + l.length + nLs k
def nLs : List RT → Nat
  | [] => 0
  | t :: r => nL t + nLs r
end
theorem nL_f (t : RT) : nL t = 2 + t.f1.length + nLs t.f2 := by
  obtain ⟨n, l, k⟩ := t
  simp only [nL]
theorem okTs_all (d : Nat) : ∀ l : List RT, okTs d l = true → ∀ t ∈ l, okT d t = true
  | [], _, t, ht => by simp at ht
  | x :: r, h, t, ht => by
    simp only [okTs, Bool.and_eq_true] at h
    rcases List.mem_cons.1 ht with rfl | ht
    · exact h.1
    · exact okTs_all d r h.2 t ht
theorem okT_of {d : Nat} {t : RT} (h : okT d t = true) : 0 < d ∧ nameR t.f0 = true ∧ (∀ x ∈ t.f1, okL x = true) ∧ ∀ x ∈ t.f2, okT (d - 1) x = true := by
  rw [okT_f] at h
  simp only [Bool.and_eq_true, decide_eq_true_eq] at h
  exact ⟨h.1, h.2.1, fun x hx => List.all_eq_true.1 h.2.2.1 x hx, okTs_all _ _ h.2.2.2⟩
theorem name_size {n : ByteArray} (h : nameR n = true) : 1 ≤ n.size ∧ n.size ≤ 60 := by
  unfold nameR at h
  simp only [Bool.and_eq_true, decide_eq_true_eq] at h
  exact h.2
theorem okL_of {x : RL} (h : okL x = true) : formR x.f0 (x.f1.map toP) x.f2 = true := by
  unfold okL at h
  simp only [Bool.and_eq_true] at h
  exact h.1
theorem sizeX_l1 (nm : ByteArray) (l : List RL) (dp B : Nat) (hdp : dp ≤ 10) (hB0 : 1048576 ≤ B) (hB : B ≤ 100000000000000000) (ks : List RT) (hk : ks.length ≤ 9000000000000000000)
    (ih : ∀ t ∈ ks, ∃ r : Nat, Ev (fun k => trystlaw11_size.f k t.f0 t.f1 t.f2 ((dp + 1 : Nat) : Int)) (r : Int) ∧ r + 50000 ≤ B ∧ (r ≤ 50000 → goodT t ∧ nL t ≤ r)) :
    ∀ (d i n : Nat), i + d = ks.length → n ≤ B → ∃ r : Nat, Ev (fun k => trystlaw11_size.l1 k (dp : Int) (n : Int) (ks.length : Int) (i : Int) nm l ks) (r : Int) ∧ r ≤ B ∧ (r ≤ 50000 → goodTs (ks.drop i) ∧ n + nLs (ks.drop i) ≤ r) := by
  intro d
  induction d with
  | zero =>
    intro i n hi hn
    obtain rfl : i = ks.length := by omega
    refine ⟨n, Ev.step (f := fun _ => some (n : Int)) (fun k => by simp only [trystlaw11_size.l1]; rw [if_neg (by omega)]) (Ev.now _), hn, fun _ => ?_⟩
    rw [List.drop_eq_nil_of_le (Nat.le_refl _)]
    simp only [goodTs, nLs]
    exact ⟨trivial, Nat.le_refl _⟩
  | succ d ihd =>
    intro i n hi hn
    have hil : i < ks.length := by omega
    by_cases hg : (n : Int) > 50000
    · exact ⟨1048576, Ev.step (f := fun _ => some 1048576) (fun k => by simp only [trystlaw11_size.l1]; rw [if_pos (by omega), if_neg (by omega), if_pos hg]) (Ev.now _), hB0, fun h => by omega⟩
    obtain ⟨q, hq, hqB, hqg⟩ := ih _ (List.getElem_mem hil)
    obtain ⟨r, hr, hrB, hrg⟩ := ihd (i + 1) (n + q) (by omega) (by omega)
    refine ⟨r, Ev.step (f := fun k => (trystlaw11_size.f k ks[i].f0 ks[i].f1 ks[i].f2 ((dp + 1 : Nat) : Int)).bind fun t => trystlaw11_size.l1 k (dp : Int) (wrap64 ((n : Int) + t)) (ks.length : Int) ((i + 1 : Nat) : Int) nm l ks) (fun k => ?_) (Ev.bind hq ?_), hrB, fun h => ?_⟩
    · simp only [trystlaw11_size.l1]
      rw [if_pos (by omega), if_neg (by omega), if_neg hg, if_pos (by omega), if_pos (by omega), rdRT ks i hil, wrapS i _ hil hk, show wrap64 ((dp : Int) + 1) = ((dp + 1 : Nat) : Int) by unfold wrap64; omega]
    · rw [show wrap64 ((n : Int) + (q : Int)) = ((n + q : Nat) : Int) by unfold wrap64; omega]
      exact hr
    · obtain ⟨g1, g2⟩ := hrg h
      obtain ⟨g3, g4⟩ := hqg (by omega)
      rw [List.drop_eq_getElem_cons hil]
      simp only [goodTs, nLs]
      exact ⟨⟨g3, g1⟩, by omega⟩
theorem sizeX_l0 (nm : ByteArray) (l : List RL) (ks : List RT) (dp : Int) (B : Nat) (hl : l.length < 2513169434916) (hs : ∀ x ∈ l, LS x) (hok : ∀ x ∈ l, okL x = true) (G : Nat → Nat → Prop) (hG : ∀ a b r, a ≤ b → G b r → G a r) (hB0 : 1048576 ≤ B)
    (next : ∀ n : Nat, n ≤ 61 + l.length * 5001 → ∃ r : Nat, Ev (fun k => trystlaw11_size.l1 k dp (n : Int) (ks.length : Int) 0 nm l ks) (r : Int) ∧ r ≤ B ∧ (r ≤ 50000 → G n r)) :
    ∀ (d i n : Nat), i + d = l.length → n ≤ 61 + i * 5001 → ∃ r : Nat, Ev (fun k => trystlaw11_size.l0 k dp (n : Int) (l.length : Int) (i : Int) nm l ks) (r : Int) ∧ r ≤ B ∧ (r ≤ 50000 → (∀ x ∈ l.drop i, goodL x) ∧ G (n + d) r) := by
  intro d
  induction d with
  | zero =>
    intro i n hi hn
    obtain rfl : i = l.length := by omega
    obtain ⟨r, h1, h2, h3⟩ := next n hn
    refine ⟨r, Ev.step (fun k => by simp only [trystlaw11_size.l0]; rw [if_neg (by omega)]) h1, h2, fun h => ⟨fun x hx => ?_, h3 h⟩⟩
    rw [List.drop_eq_nil_of_le (Nat.le_refl _)] at hx
    simp at hx
  | succ d ihd =>
    intro i n hi hn
    have hil : i < l.length := by omega
    have hx := hs _ (List.getElem_mem hil)
    obtain ⟨b, hb, hb2⟩ := few_line2 l[i].f0 l[i].f2 l[i].f1 hx.1 hx.2.1 hx.2.2 (okL_of (hok _ (List.getElem_mem hil)))
    have hstep : ∀ k, trystlaw11_size.l0 (k + 1) dp (n : Int) (l.length : Int) (i : Int) nm l ks = (trystlaw10_Few.f k l[i].f0 l[i].f1 l[i].f2).bind fun t => if t = true then trystlaw11_size.l0 k dp (wrap64 ((wrap64 ((wrap64 ((n : Int) + 1)) + (l[i].f0.size : Int))) + (l[i].f2.size : Int))) (l.length : Int) ((i + 1 : Nat) : Int) nm l ks else some 1048576 := fun k => by
      simp only [trystlaw11_size.l0]
      rw [if_pos (by omega), if_pos (by omega), if_pos (by omega), rdRL l i hil, wrapS i _ hil (by omega)]
    cases b with
    | false => exact ⟨1048576, Ev.step hstep (Ev.bind hb (Ev.congr (f := fun _ => some 1048576) (fun k => by rw [if_neg (by simp)]) (Ev.now _))), hB0, fun h => by omega⟩
    | true =>
      have h5 := hb2 rfl
      obtain ⟨r, h1, h2, h3⟩ := ihd (i + 1) (n + 1 + l[i].f0.size + l[i].f2.size) (by omega) (by omega)
      refine ⟨r, Ev.step hstep (Ev.bind hb (Ev.congr (fun k => by rw [if_pos rfl]) ?_)), h2, fun h => ?_⟩
      · have hn2 : n ≤ 12568360344014977 := by clear hG hstep hb hb2 next ihd h1 h2 h3; omega
        have h6 : l[i].f0.size + l[i].f2.size + fewP l[i].f1 ≤ 5000 := h5
        have e1 : wrap64 ((n : Int) + 1) = ((n + 1 : Nat) : Int) := wrapN n 1 (by omega)
        rw [e1, wrapN (n + 1) l[i].f0.size (by omega), wrapN (n + 1 + l[i].f0.size) l[i].f2.size (by omega)]
        exact h1
      · obtain ⟨g1, g2⟩ := h3 h
        refine ⟨fun x hx => ?_, hG _ _ _ (by omega) g2⟩
        rw [List.drop_eq_getElem_cons hil] at hx
        rcases List.mem_cons.1 hx with rfl | hx
        · exact h5
        · exact g1 x hx
theorem sizeX : ∀ (N : Nat) (t : RT), SizeOf.sizeOf t < N → TB t → TS t → ∀ d dp : Nat, d ≤ 4 → dp + d ≤ 5 → okT d t = true →
    ∃ r : Nat, Ev (fun k => trystlaw11_size.f k t.f0 t.f1 t.f2 (dp : Int)) (r : Int) ∧ r ≤ 20000000000000000 + d * 100000 ∧ (r ≤ 50000 → goodT t ∧ nL t ≤ r)
  | 0, t, h, _, _ => by omega
  | N + 1, t, h, hb, hs => by
    intro d dp hd hdp hok
    obtain ⟨⟨h1, h2⟩, h3, h4⟩ := TB_of hb
    obtain ⟨s1, s2, s3⟩ := TS_of hs
    obtain ⟨o1, o2, o3, o4⟩ := okT_of hok
    have hnm := name_size o2
    have ih : ∀ x ∈ t.f2, ∃ r : Nat, Ev (fun k => trystlaw11_size.f k x.f0 x.f1 x.f2 ((dp + 1 : Nat) : Int)) (r : Int) ∧ r + 50000 ≤ 20000000000000000 + d * 100000 ∧ (r ≤ 50000 → goodT x ∧ nL x ≤ r) := fun x hx => by
      obtain ⟨r, g1, g2, g3⟩ := sizeX N x (by have := kid_lt hx; omega) (h4 x hx) (s3 x hx) (d - 1) (dp + 1) (by omega) (by omega) (o4 x hx)
      exact ⟨r, g1, by omega, g3⟩
    have hl5 : t.f1.length * 5001 ≤ 12568360344014916 := by omega
    obtain ⟨r, g1, g2, g3⟩ := sizeX_l0 t.f0 t.f1 t.f2 (dp : Int) (20000000000000000 + d * 100000) h1 s2 o3 (fun n r => goodTs t.f2 ∧ n + nLs t.f2 ≤ r) (fun a b r hab hg => ⟨hg.1, by omega⟩) (by omega)
      (fun n hn => by
        obtain ⟨r, q1, q2, q3⟩ := sizeX_l1 t.f0 t.f1 dp (20000000000000000 + d * 100000) (by omega) (by omega) (by omega) t.f2 (by omega) ih t.f2.length 0 n (by omega) (by omega)
        rw [List.drop_zero] at q3
        exact ⟨r, q1, q2, q3⟩) t.f1.length 0 (1 + t.f0.size) (by omega) (by omega)
    rw [List.drop_zero] at g3
    refine ⟨r, Ev.step (fun k => by simp only [trystlaw11_size.f]; rw [show wrap64 (1 + (t.f0.size : Int)) = ((1 + t.f0.size : Nat) : Int) by unfold wrap64; omega]; rfl) g1, g2, fun hr => ?_⟩
    obtain ⟨q1, q2, q3⟩ := g3 hr
    exact ⟨goodT_mk q1 q2, by rw [nL_f]; omega⟩
theorem fewX (t : RT) (hb : TB t) (hs : TS t) (hok : okT 4 t = true) : ∃ b, Ev (fun k => trystlaw11_Few.f k t.f0 t.f1 t.f2) b ∧ (b = true → goodT t ∧ nL t ≤ 50000) := by
  obtain ⟨r, g1, g2, g3⟩ := sizeX _ t (Nat.lt_succ_self _) hb hs 4 0 (by omega) (by omega) hok
  refine ⟨decide ((r : Int) ≤ 50000), Ev.bind g1 (Ev.now _), fun h => ?_⟩
  have h := of_decide_eq_true h
  obtain ⟨q1, q2⟩ := g3 (by omega)
  exact ⟨q1, by omega⟩
/-- Few of any tree answers. -/
theorem size_l0' (nm : ByteArray) (l : List RL) (ks : List RT) (dp : Int) (hl : l.length ≤ 9000000000000000000) (hb : ∀ x ∈ l, LB x) (next : ∀ n : Int, ∃ r, Ev (fun k => trystlaw11_size.l1 k dp n (ks.length : Int) ((0 : Nat) : Int) nm l ks) r) :
    ∀ (d i : Nat) (n : Int), i + d = l.length → ∃ r, Ev (fun k => trystlaw11_size.l0 k dp n (l.length : Int) (i : Int) nm l ks) r := by
  intro d
  induction d with
  | zero =>
    intro i n hi
    obtain ⟨r, hr⟩ := next n
    exact ⟨r, Ev.step (fun k => by simp only [trystlaw11_size.l0]; rw [if_neg (by omega)]; rfl) hr⟩
  | succ d ihd =>
    intro i n hi
    have hil : i < l.length := by omega
    have hx := hb _ (List.getElem_mem hil)
    obtain ⟨b, hbv⟩ := few_ev l[i].f0 l[i].f2 l[i].f1 (by have := hx.1; omega) (fun p hp => by have := hx.2 p hp; omega) l[i].f1.length 0 (wrap64 ((l[i].f0.size : Int) + (l[i].f2.size : Int))) (by omega)
    have hstep : ∀ k, trystlaw11_size.l0 (k + 1) dp n (l.length : Int) (i : Int) nm l ks = (trystlaw10_Few.f k l[i].f0 l[i].f1 l[i].f2).bind fun t => if t = true then trystlaw11_size.l0 k dp (wrap64 ((wrap64 ((wrap64 (n + 1)) + (l[i].f0.size : Int))) + (l[i].f2.size : Int))) (l.length : Int) ((i + 1 : Nat) : Int) nm l ks else some 1048576 := fun k => by
      simp only [trystlaw11_size.l0]
      rw [if_pos (by omega), if_pos (by omega), if_pos (by omega), rdRL l i hil, wrapS i _ hil hl]
    have hbv2 : Ev (fun k => trystlaw10_Few.f k l[i].f0 l[i].f1 l[i].f2) b := hbv
    cases b with
    | false => exact ⟨1048576, Ev.step hstep (Ev.bind hbv2 (Ev.congr (f := fun _ => some 1048576) (fun k => by rw [if_neg (by simp)]) (Ev.now _)))⟩
    | true =>
      obtain ⟨r, hr⟩ := ihd (i + 1) (wrap64 ((wrap64 ((wrap64 (n + 1)) + (l[i].f0.size : Int))) + (l[i].f2.size : Int))) (by omega)
      exact ⟨r, Ev.step hstep (Ev.bind hbv2 (Ev.congr (fun k => by rw [if_pos rfl]) hr))⟩
theorem sizeT' : ∀ (N : Nat) (t : RT), SizeOf.sizeOf t < N → TB t → ∀ dp : Int, ∃ r, Ev (fun k => trystlaw11_size.f k t.f0 t.f1 t.f2 dp) r
  | 0, t, h, _ => by omega
  | N + 1, t, h, hb => by
    intro dp
    obtain ⟨⟨h1, h2⟩, h3, h4⟩ := TB_of hb
    obtain ⟨r, hr⟩ := size_l0' t.f0 t.f1 t.f2 dp (by omega) h2 (fun n => size_l1 t.f0 t.f1 t.f2 dp (by omega) (fun x hx dq => sizeT' N x (by have := kid_lt hx; omega) (h4 x hx) dq) t.f2.length 0 n (by omega)) t.f1.length 0 (wrap64 (1 + (t.f0.size : Int))) (by omega)
    exact ⟨r, Ev.step (fun k => by simp only [trystlaw11_size.f]; rfl) hr⟩
theorem fewT' (t : RT) (hb : TB t) : ∃ b, Ev (fun k => trystlaw11_Few.f k t.f0 t.f1 t.f2) b := by
  obtain ⟨r, hr⟩ := sizeT' _ t (Nat.lt_succ_self _) hb 0
  exact ⟨decide (r ≤ 50000), Ev.bind hr (Ev.now _)⟩
def lnL : List RL → List ByteArray → List ByteArray × Int
  | [], a => (a, 0)
  | x :: r, a => if (printR x.f0 (x.f1.map toP) x.f2).2 = 0 then lnL r (a ++ [(printR x.f0 (x.f1.map toP) x.f2).1]) else ([], (printR x.f0 (x.f1.map toP) x.f2).2)
def finL (n : ByteArray) (p : List ByteArray × Int) : List ByteArray × Int := if p.2 = 0 then (p.1 ++ [(⟨#[69, 78, 68, 58]⟩ : ByteArray) ++ n], 0) else ([], p.2)
mutual
def lnT : RT → List ByteArray × Int
  | ⟨n, l, k⟩ => if (lnL l [(⟨#[66, 69, 71, 73, 78, 58]⟩ : ByteArray) ++ n]).2 = 0 then finL n (lnK k (lnL l [(⟨#[66, 69, 71, 73, 78, 58]⟩ : ByteArray) ++ n]).1) else ([], (lnL l [(⟨#[66, 69, 71, 73, 78, 58]⟩ : ByteArray) ++ n]).2)
def lnK : List RT → List ByteArray → List ByteArray × Int
  | [], a => (a, 0)
  | t :: r, a => if (lnT t).2 = 0 then lnK r (a ++ (lnT t).1) else ([], (lnT t).2)
end
def lnTl (n : ByteArray) (k : List RT) (p : List ByteArray × Int) : List ByteArray × Int := if p.2 = 0 then finL n (lnK k p.1) else ([], p.2)
theorem lnT_f (t : RT) : lnT t = lnTl t.f0 t.f2 (lnL t.f1 [(⟨#[66, 69, 71, 73, 78, 58]⟩ : ByteArray) ++ t.f0]) := by
  obtain ⟨n, l, k⟩ := t
  simp only [lnT]
  rfl
theorem lnL_len : ∀ (l : List RL) (a : List ByteArray), (lnL l a).1.length ≤ a.length + l.length
  | [], a => by simp [lnL]
  | x :: r, a => by
    unfold lnL
    split
    · have := lnL_len r (a ++ [(printR x.f0 (x.f1.map toP) x.f2).1])
      rw [List.length_append, List.length_singleton] at this
      rw [List.length_cons]; omega
    · simp
theorem lnK_len : ∀ (ks : List RT) (a : List ByteArray), (∀ t ∈ ks, (lnT t).1.length ≤ nL t) → (lnK ks a).1.length ≤ a.length + nLs ks
  | [], a, _ => by simp [lnK, nLs]
  | t :: r, a, h => by
    simp only [lnK, nLs]
    split
    · have := lnK_len r (a ++ (lnT t).1) (fun x hx => h x (by simp [hx]))
      rw [List.length_append] at this
      have := h t (by simp)
      omega
    · simp
theorem lnT_len : ∀ (N : Nat) (t : RT), SizeOf.sizeOf t < N → (lnT t).1.length ≤ nL t
  | 0, t, h => by omega
  | N + 1, t, h => by
    rw [lnT_f, nL_f]
    unfold lnTl
    split
    · unfold finL
      split
      · have h1 := lnL_len t.f1 [(⟨#[66, 69, 71, 73, 78, 58]⟩ : ByteArray) ++ t.f0]
        have h2 := lnK_len t.f2 (lnL t.f1 [(⟨#[66, 69, 71, 73, 78, 58]⟩ : ByteArray) ++ t.f0]).1 (fun x hx => lnT_len N x (by have := kid_lt hx; omega))
        rw [List.length_singleton] at h1
        rw [List.length_append, List.length_singleton]
        omega
      · simp
    · simp
theorem print_size (nm : ByteArray) (l : List LP) (v : ByteArray) (h : (printR nm l v).2 = 0) : (printR nm l v).1.size ≤ 2000 := by
  unfold printR at h ⊢
  split at h
  · rename_i h1
    rw [if_pos h1]
    unfold lineR at h ⊢
    split at h
    · cases h
    · rename_i h2
      rw [if_neg h2]
      show (lineT nm l v).toArray.size ≤ 2000
      rw [List.size_toArray]; omega
  · cases h
theorem lnL_size : ∀ (l : List RL) (a : List ByteArray), (∀ x ∈ a, x.size ≤ 2000) → ∀ x ∈ (lnL l a).1, x.size ≤ 2000
  | [], a, h => by simpa [lnL] using h
  | y :: r, a, h => by
    unfold lnL
    split
    · rename_i h0
      refine lnL_size r _ (fun x hx => ?_)
      rcases List.mem_append.1 hx with hx | hx
      · exact h x hx
      · rw [List.mem_singleton.1 hx]; exact print_size _ _ _ h0
    · intro x hx; simp at hx
theorem lnK_size : ∀ (ks : List RT) (a : List ByteArray), (∀ x ∈ a, x.size ≤ 2000) → (∀ t ∈ ks, ∀ x ∈ (lnT t).1, x.size ≤ 2000) → ∀ x ∈ (lnK ks a).1, x.size ≤ 2000
  | [], a, h, _ => by simpa [lnK] using h
  | t :: r, a, h, ht => by
    simp only [lnK]
    split
    · refine lnK_size r _ (fun x hx => ?_) (fun y hy => ht y (by simp [hy]))
      rcases List.mem_append.1 hx with hx | hx
      · exact h x hx
      · exact ht t (by simp) x hx
    · intro x hx; simp at hx
theorem lnT_size : ∀ (N : Nat) (t : RT), SizeOf.sizeOf t < N → ∀ d, okT d t = true → ∀ x ∈ (lnT t).1, x.size ≤ 2000
  | 0, t, h => by omega
  | N + 1, t, h => by
    intro d hok
    obtain ⟨o1, o2, o3, o4⟩ := okT_of hok
    have hnm := name_size o2
    rw [lnT_f]
    unfold lnTl
    have hb : ∀ x ∈ [(⟨#[66, 69, 71, 73, 78, 58]⟩ : ByteArray) ++ t.f0], x.size ≤ 2000 := fun x hx => by
      rw [List.mem_singleton.1 hx, ByteArray.size_append]; show 6 + _ ≤ _; omega
    split
    · unfold finL
      split
      · intro x hx
        rcases List.mem_append.1 hx with hx | hx
        · exact lnK_size t.f2 _ (lnL_size t.f1 _ hb) (fun y hy => lnT_size N y (by have := kid_lt hy; omega) (d - 1) (o4 y hy)) x hx
        · rw [List.mem_singleton.1 hx, ByteArray.size_append]; show 4 + _ ≤ _; omega
      · intro x hx; simp at hx
    · intro x hx; simp at hx
theorem goodL_len {x : RL} (h : goodL x) : (lineT x.f0 (x.f1.map toP) x.f2).length ≤ 20000 ∧ ∀ p ∈ x.f1, ∀ z ∈ p.f1, z.size ≤ 100000 := by
  unfold goodL at h
  have := lineT_le x.f0 x.f2 x.f1
  exact ⟨by omega, fun p hp z hz => by have h1 := few_p x.f1 p hp; have h2 := few_x p.f1 z hz; omega⟩
theorem lnL_drop (l : List RL) (i : Nat) (h : i < l.length) (a : List ByteArray) : lnL (l.drop i) a = if (printR l[i].f0 (l[i].f1.map toP) l[i].f2).2 = 0 then lnL (l.drop (i + 1)) (a ++ [(printR l[i].f0 (l[i].f1.map toP) l[i].f2).1]) else ([], (printR l[i].f0 (l[i].f1.map toP) l[i].f2).2) := by
  rw [List.drop_eq_getElem_cons h]; rfl
theorem lnK_drop (l : List RT) (i : Nat) (h : i < l.length) (a : List ByteArray) : lnK (l.drop i) a = if (lnT l[i]).2 = 0 then lnK (l.drop (i + 1)) (a ++ (lnT l[i]).1) else ([], (lnT l[i]).2) := by
  rw [List.drop_eq_getElem_cons h]; simp only [lnK]
theorem nLs_drop (l : List RT) (i : Nat) (h : i < l.length) : nLs (l.drop i) = nL l[i] + nLs (l.drop (i + 1)) := by
  rw [List.drop_eq_getElem_cons h]; simp only [nLs]
theorem linesP_l1 (nm : ByteArray) (L : List PL) (ks : List RT) (hn : nm.size ≤ 140737488351232) (hk : ks.length ≤ 9000000000000000000) (ih : ∀ t ∈ ks, Ev (fun k => tree_lines.f k t.f0 (t.f1.map toL) (t.f2.map toT)) (lnT t)) :
    ∀ (d i : Nat) (a : List ByteArray), i + d = ks.length → a.length + nLs (ks.drop i) ≤ 1000000 → Ev (fun k => tree_lines.l1 k a (ks.map toT) (ks.length : Int) (i : Int) nm L (ks.map toT)) (finL nm (lnK (ks.drop i) a)) := by
  intro d
  induction d with
  | zero =>
    intro i a hi ha
    obtain rfl : i = ks.length := by omega
    rw [List.drop_eq_nil_of_le (Nat.le_refl _)] at ha ⊢
    have ha : a.length ≤ 1000000 := by omega
    have ha2 : a.length < 8796093022208 := by omega
    refine Ev.step (f := fun _ => some (a ++ [(⟨#[69, 78, 68, 58]⟩ : ByteArray) ++ nm], 0)) (fun k => ?_) (by simp only [lnK, finL]; exact Ev.now _)
    simp only [tree_lines.l1]
    rw [if_neg (by omega), if_pos (by omega), if_pos ha2]
  | succ d ihd =>
    intro i a hi ha
    have hil : i < ks.length := by omega
    have hlen := lnT_len _ ks[i] (Nat.lt_succ_self _)
    rw [nLs_drop ks i hil] at ha
    rw [lnK_drop ks i hil]
    refine Ev.step (f := fun k => (tree_lines.f k ks[i].f0 (ks[i].f1.map toL) (ks[i].f2.map toT)).bind fun bt => if bt.2 = 0 then (if a.length + bt.1.length < 8796093022208 then tree_lines.l1 k (a ++ bt.1) (ks.map toT) (ks.length : Int) ((i + 1 : Nat) : Int) nm L (ks.map toT) else none) else some ([], bt.2)) (fun k => ?_) (Ev.bind (ih _ (List.getElem_mem hil)) ?_)
    · simp only [tree_lines.l1]
      rw [if_pos (by omega), if_pos (by omega), if_pos (by rw [List.length_map]; omega), rdPT ks i hil, wrapS i _ hil hk]
    · by_cases h0 : (lnT ks[i]).2 = 0
      · refine Ev.congr (fun k => by rw [if_pos h0, if_pos (by omega)]) ?_
        rw [if_pos h0]
        exact ihd (i + 1) _ (by omega) (by rw [List.length_append]; omega)
      · refine Ev.congr (f := fun _ => some ([], (lnT ks[i]).2)) (fun k => by rw [if_neg h0]) ?_
        rw [if_neg h0]
        unfold finL
        rw [if_neg (show ¬ (([] : List ByteArray), (lnT ks[i]).2).2 = 0 from h0)]
        exact Ev.now _
theorem linesP_l0 (nm : ByteArray) (l : List RL) (ks : List RT) (hl : l.length < 2513169434916) (hs : ∀ x ∈ l, LS x) (hg : ∀ x ∈ l, goodL x) (m : Nat) (hm : m ≤ 900000)
    (next : ∀ a : List ByteArray, a.length ≤ m → Ev (fun k => tree_lines.l1 k a (ks.map toT) ((ks.map toT).length : Int) 0 nm (l.map toL) (ks.map toT)) (finL nm (lnK ks a))) :
    ∀ (d i : Nat) (a : List ByteArray), i + d = l.length → a.length + d ≤ m → Ev (fun k => tree_lines.l0 k a (l.map toL) (l.length : Int) (i : Int) nm (l.map toL) (ks.map toT)) (lnTl nm ks (lnL (l.drop i) a)) := by
  intro d
  induction d with
  | zero =>
    intro i a hi ha
    obtain rfl : i = l.length := by omega
    rw [List.drop_eq_nil_of_le (Nat.le_refl _)]
    refine Ev.step (fun k => by simp only [tree_lines.l0]; rw [if_neg (by omega)]) ?_
    unfold lnTl
    simp only [lnL]
    exact next a (by omega)
  | succ d ihd =>
    intro i a hi ha
    have hil : i < l.length := by omega
    have hx := hs _ (List.getElem_mem hil)
    have hgl := goodL_len (hg _ (List.getElem_mem hil))
    rw [lnL_drop l i hil]
    have ha2 : a.length < 8796093022208 := by omega
    refine Ev.step (f := fun k => (line_Print.f k l[i].f0 (l[i].f1.map toP) l[i].f2).bind fun bt => if bt.2 = 0 then (if a.length < 8796093022208 then tree_lines.l0 k (a ++ [bt.1]) (l.map toL) (l.length : Int) ((i + 1 : Nat) : Int) nm (l.map toL) (ks.map toT) else none) else some ([], bt.2)) (fun k => ?_) (Ev.bind (printL l[i].f0 l[i].f2 (l[i].f1.map toP) hx.1 hx.2.1 (fun p hp => by obtain ⟨q, hq, rfl⟩ := List.mem_map.1 hp; exact hx.2.2 q hq) (fun _ => by have := hgl.1; omega)) ?_)
    · simp only [tree_lines.l0]
      rw [if_pos (by omega), if_pos (by omega), if_pos (by rw [List.length_map]; omega), rdPLm l i hil, wrapS i _ hil (by omega)]
    · by_cases h0 : (printR l[i].f0 (l[i].f1.map toP) l[i].f2).2 = 0
      · refine Ev.congr (fun k => by rw [if_pos h0, if_pos ha2]) ?_
        rw [if_pos h0]
        exact ihd (i + 1) _ (by omega) (by rw [List.length_append, List.length_singleton]; omega)
      · refine Ev.congr (f := fun _ => some ([], (printR l[i].f0 (l[i].f1.map toP) l[i].f2).2)) (fun k => by rw [if_neg h0]) ?_
        rw [if_neg h0]
        unfold lnTl
        rw [if_neg (show ¬ (([] : List ByteArray), (printR l[i].f0 (l[i].f1.map toP) l[i].f2).2).2 = 0 from h0)]
        exact Ev.now _
theorem nLs_mem : ∀ (l : List RT) (t : RT), t ∈ l → nL t ≤ nLs l
  | x :: r, t, h => by
    simp only [nLs]
    rcases List.mem_cons.1 h with rfl | h
    · omega
    · have := nLs_mem r t h; omega
theorem linesP : ∀ (N : Nat) (t : RT), SizeOf.sizeOf t < N → TB t → TS t → goodT t → nL t ≤ 500000 → Ev (fun k => tree_lines.f k t.f0 (t.f1.map toL) (t.f2.map toT)) (lnT t)
  | 0, t, h, _, _ => by omega
  | N + 1, t, h, hb, hs => by
    intro hg hn
    obtain ⟨⟨h1, h2⟩, h3, h4⟩ := TB_of hb
    obtain ⟨s1, s2, s3⟩ := TS_of hs
    obtain ⟨g1, g2⟩ := goodT_of hg
    rw [nL_f] at hn
    rw [lnT_f]
    have n0 := linesP_l0 t.f0 t.f1 t.f2 h1 s2 g1 (1 + t.f1.length) (by omega) (fun a ha => by
      have n1 := linesP_l1 t.f0 (t.f1.map toL) t.f2 s1 (by omega) (fun x hx => linesP N x (by have := kid_lt hx; omega) (h4 x hx) (s3 x hx) (g2 x hx) (by have := nLs_mem _ x hx; omega)) t.f2.length 0 a (by omega) (by rw [List.drop_zero]; omega)
      rw [List.drop_zero] at n1
      rw [List.length_map]
      exact n1) t.f1.length 0 [(⟨#[66, 69, 71, 73, 78, 58]⟩ : ByteArray) ++ t.f0] (by omega) (by rw [List.length_singleton]; exact Nat.le_refl _)
    rw [List.drop_zero] at n0
    exact Ev.step (fun k => by simp only [tree_lines.f]; rw [if_pos (by omega), List.length_map]; rfl) n0
theorem linesR_l1 (nm : ByteArray) (l : List RL) (ks : List RT) (hn : nm.size ≤ 140737488351232) (hk : ks.length ≤ 9000000000000000000) (ih : ∀ t ∈ ks, Ev (fun k => trystref08_Lines.f k t.f0 t.f1 t.f2) (lnT t)) :
    ∀ (d i : Nat) (a : List ByteArray), i + d = ks.length → a.length + nLs (ks.drop i) ≤ 1000000 → Ev (fun k => trystref08_Lines.l1 k a (ks.length : Int) (i : Int) nm l ks) (finL nm (lnK (ks.drop i) a)) := by
  intro d
  induction d with
  | zero =>
    intro i a hi ha
    obtain rfl : i = ks.length := by omega
    rw [List.drop_eq_nil_of_le (Nat.le_refl _)] at ha ⊢
    have ha : a.length ≤ 1000000 := by omega
    have ha2 : a.length < 8796093022208 := by omega
    refine Ev.step (f := fun _ => some (a ++ [(⟨#[69, 78, 68, 58]⟩ : ByteArray) ++ nm], 0)) (fun k => ?_) (by simp only [lnK, finL]; exact Ev.now _)
    simp only [trystref08_Lines.l1]
    rw [if_neg (by omega), if_pos (by omega), if_pos ha2]
  | succ d ihd =>
    intro i a hi ha
    have hil : i < ks.length := by omega
    have hlen := lnT_len _ ks[i] (Nat.lt_succ_self _)
    rw [nLs_drop ks i hil] at ha
    rw [lnK_drop ks i hil]
    refine Ev.step (f := fun k => (trystref08_Lines.f k ks[i].f0 ks[i].f1 ks[i].f2).bind fun bt => if bt.2 = 0 then (if a.length + bt.1.length < 8796093022208 then trystref08_Lines.l1 k (a ++ bt.1) (ks.length : Int) ((i + 1 : Nat) : Int) nm l ks else none) else some ([], bt.2)) (fun k => ?_) (Ev.bind (ih _ (List.getElem_mem hil)) ?_)
    · simp only [trystref08_Lines.l1]
      rw [if_pos (by omega), if_pos (by omega), if_pos (by omega), rdRT ks i hil, wrapS i _ hil hk]
    · by_cases h0 : (lnT ks[i]).2 = 0
      · refine Ev.congr (fun k => by rw [if_pos h0, if_pos (by omega)]) ?_
        rw [if_pos h0]
        exact ihd (i + 1) _ (by omega) (by rw [List.length_append]; omega)
      · refine Ev.congr (f := fun _ => some ([], (lnT ks[i]).2)) (fun k => by rw [if_neg h0]) ?_
        rw [if_neg h0]
        unfold finL
        rw [if_neg (show ¬ (([] : List ByteArray), (lnT ks[i]).2).2 = 0 from h0)]
        exact Ev.now _
theorem linesR_l0 (nm : ByteArray) (l : List RL) (ks : List RT) (hl : l.length < 2513169434916) (hs : ∀ x ∈ l, LS x) (hg : ∀ x ∈ l, goodL x) (m : Nat) (hm : m ≤ 900000)
    (next : ∀ a : List ByteArray, a.length ≤ m → Ev (fun k => trystref08_Lines.l1 k a (ks.length : Int) 0 nm l ks) (finL nm (lnK ks a))) :
    ∀ (d i : Nat) (a : List ByteArray), i + d = l.length → a.length + d ≤ m → Ev (fun k => trystref08_Lines.l0 k a (l.length : Int) (i : Int) nm l ks) (lnTl nm ks (lnL (l.drop i) a)) := by
  intro d
  induction d with
  | zero =>
    intro i a hi ha
    obtain rfl : i = l.length := by omega
    rw [List.drop_eq_nil_of_le (Nat.le_refl _)]
    refine Ev.step (fun k => by simp only [trystref08_Lines.l0]; rw [if_neg (by omega)]) ?_
    unfold lnTl
    simp only [lnL]
    exact next a (by omega)
  | succ d ihd =>
    intro i a hi ha
    have hil : i < l.length := by omega
    have hx := hs _ (List.getElem_mem hil)
    have hgl := goodL_len (hg _ (List.getElem_mem hil))
    rw [lnL_drop l i hil]
    have ha2 : a.length < 8796093022208 := by omega
    refine Ev.step (f := fun k => (trystref08_Print.f k l[i].f0 l[i].f1 l[i].f2).bind fun bt => if bt.2 = 0 then (if a.length < 8796093022208 then trystref08_Lines.l0 k (a ++ [bt.1]) (l.length : Int) ((i + 1 : Nat) : Int) nm l ks else none) else some ([], bt.2)) (fun k => ?_) (Ev.bind (printRef l[i].f0 l[i].f2 l[i].f1 hx.1 hx.2.1 hx.2.2 (fun _ => ⟨by have := hgl.1; omega, hgl.2⟩)) ?_)
    · simp only [trystref08_Lines.l0]
      rw [if_pos (by omega), if_pos (by omega), if_pos (by omega), rdRL l i hil, wrapS i _ hil (by omega)]
    · by_cases h0 : (printR l[i].f0 (l[i].f1.map toP) l[i].f2).2 = 0
      · refine Ev.congr (fun k => by rw [if_pos h0, if_pos ha2]) ?_
        rw [if_pos h0]
        exact ihd (i + 1) _ (by omega) (by rw [List.length_append, List.length_singleton]; omega)
      · refine Ev.congr (f := fun _ => some ([], (printR l[i].f0 (l[i].f1.map toP) l[i].f2).2)) (fun k => by rw [if_neg h0]) ?_
        rw [if_neg h0]
        unfold lnTl
        rw [if_neg (show ¬ (([] : List ByteArray), (printR l[i].f0 (l[i].f1.map toP) l[i].f2).2).2 = 0 from h0)]
        exact Ev.now _
theorem linesR : ∀ (N : Nat) (t : RT), SizeOf.sizeOf t < N → TB t → TS t → goodT t → nL t ≤ 500000 → Ev (fun k => trystref08_Lines.f k t.f0 t.f1 t.f2) (lnT t)
  | 0, t, h, _, _ => by omega
  | N + 1, t, h, hb, hs => by
    intro hg hn
    obtain ⟨⟨h1, h2⟩, h3, h4⟩ := TB_of hb
    obtain ⟨s1, s2, s3⟩ := TS_of hs
    obtain ⟨g1, g2⟩ := goodT_of hg
    rw [nL_f] at hn
    rw [lnT_f]
    have n0 := linesR_l0 t.f0 t.f1 t.f2 h1 s2 g1 (1 + t.f1.length) (by omega) (fun a ha => by
      have n1 := linesR_l1 t.f0 t.f1 t.f2 s1 (by omega) (fun x hx => linesR N x (by have := kid_lt hx; omega) (h4 x hx) (s3 x hx) (g2 x hx) (by have := nLs_mem _ x hx; omega)) t.f2.length 0 a (by omega) (by rw [List.drop_zero]; omega)
      rw [List.drop_zero] at n1
      exact n1) t.f1.length 0 [(⟨#[66, 69, 71, 73, 78, 58]⟩ : ByteArray) ++ t.f0] (by omega) (by rw [List.length_singleton]; exact Nat.le_refl _)
    rw [List.drop_zero] at n0
    exact Ev.step (fun k => by simp only [trystref08_Lines.f]; rw [if_pos (by omega)]; rfl) n0
def prT (t : RT) : ByteArray × Int := if formT t = true then (if (lnT t).2 = 0 then foldA (lnT t).1 else (⟨#[]⟩, (lnT t).2)) else (⟨#[]⟩, 1)
theorem prTP (t : RT) (hb : TB t) (hs : TS t) (hg : formT t = true → goodT t ∧ nL t ≤ 50000) : Ev (fun k => tree_Print.f k t.f0 (t.f1.map toL) (t.f2.map toT)) (prT t) := by
  have h1 := formTP t hb hs
  unfold prT
  refine Ev.bind h1 ?_
  cases hf : formT t with
  | false => exact Ev.congr (f := fun _ => some (⟨#[]⟩, 1)) (fun k => by rw [if_neg (by simp)]) (by rw [if_neg (by simp)]; exact Ev.now _)
  | true =>
    obtain ⟨g1, g2⟩ := hg hf
    have hok : okT 4 t = true := by unfold formT at hf; simp only [Bool.and_eq_true] at hf; exact hf.1
    rw [if_pos rfl]
    refine Ev.congr (fun k => by rw [if_pos rfl]) (Ev.bind (linesP _ t (Nat.lt_succ_self _) hb hs g1 (by omega)) ?_)
    by_cases h0 : (lnT t).2 = 0
    · rw [show (if (lnT t).2 = 0 then foldA (lnT t).1 else ((⟨#[]⟩ : ByteArray), (lnT t).2)) = foldA (lnT t).1 from if_pos h0]
      have hsz := lnT_size _ t (Nat.lt_succ_self _) 4 hok
      have hf : fold_Fold.f (lnT t).1 = some (foldA (lnT t).1) := by unfold fold_Fold.f; rw [if_pos (fun x hx => by have := hsz x hx; omega)]
      refine Ev.congr (f := fun _ => some (foldA (lnT t).1)) (fun k => ?_) (Ev.now _)
      rw [if_pos h0, hf]; rfl
    · rw [show (if (lnT t).2 = 0 then foldA (lnT t).1 else ((⟨#[]⟩ : ByteArray), (lnT t).2)) = (⟨#[]⟩, (lnT t).2) from if_neg h0]
      exact Ev.congr (f := fun _ => some (⟨#[]⟩, (lnT t).2)) (fun k => by rw [if_neg h0]) (Ev.now _)
theorem prTR (t : RT) (hb : TB t) (hs : TS t) (hg : formT t = true → goodT t ∧ nL t ≤ 50000) : Ev (fun k => trystref08_PrintTree.f k t.f0 t.f1 t.f2) (prT t) := by
  have h1 := formTR t hb hs
  unfold prT
  refine Ev.bind h1 ?_
  cases hf : formT t with
  | false => exact Ev.congr (f := fun _ => some (⟨#[]⟩, 1)) (fun k => by rw [if_neg (by simp)]) (by rw [if_neg (by simp)]; exact Ev.now _)
  | true =>
    obtain ⟨g1, g2⟩ := hg hf
    have hok : okT 4 t = true := by unfold formT at hf; simp only [Bool.and_eq_true] at hf; exact hf.1
    rw [if_pos rfl]
    refine Ev.congr (fun k => by rw [if_pos rfl]) (Ev.bind (linesR _ t (Nat.lt_succ_self _) hb hs g1 (by omega)) ?_)
    by_cases h0 : (lnT t).2 = 0
    · rw [show (if (lnT t).2 = 0 then foldA (lnT t).1 else ((⟨#[]⟩ : ByteArray), (lnT t).2)) = foldA (lnT t).1 from if_pos h0]
      have hsz := lnT_size _ t (Nat.lt_succ_self _) 4 hok
      have hlen := lnT_len _ t (Nat.lt_succ_self _)
      refine Ev.congr (f := fun k => (trystref08_Fold.f k (lnT t).1).bind fun bt => some (bt.1, bt.2)) (fun k => by rw [if_pos h0]) (Ev.bind (ref_fold (lnT t).1 (by omega) (fun x hx => by have := hsz x hx; omega)) (Ev.now _))
    · rw [show (if (lnT t).2 = 0 then foldA (lnT t).1 else ((⟨#[]⟩ : ByteArray), (lnT t).2)) = (⟨#[]⟩, (lnT t).2) from if_neg h0]
      exact Ev.congr (f := fun _ => some (⟨#[]⟩, (lnT t).2)) (fun k => by rw [if_neg h0]) (Ev.now _)
theorem awake11 : Ev (fun k => trystlaw11_awake.f k) true := Ev.of (k := 20) (fun k => trystlaw11_awake.mono k) (by decide +kernel)
theorem treePrints_pure (x : RT) (hx : TB x) (hs : TS x) : ∃ k, trystlaw11_TreePrints.f k x.f0 x.f1 x.f2 = some true := by
  have hno : Ev (fun k => trystlaw11_TreePrints.j0 k true x.f0 x.f1 x.f2) true :=
    Ev.step (f := fun k => (trystlaw11_awake.f k).bind fun t => some t) (fun k => by simp only [trystlaw11_TreePrints.j0]; rw [if_pos trivial]) (Ev.bind awake11 (Ev.now _))
  have hyes : (formT x = true → goodT x ∧ nL x ≤ 50000) → Ev (fun k => trystlaw11_TreePrints.j0 k false x.f0 x.f1 x.f2) true := fun hg => by
    refine Ev.step (f := fun k => (trystlaw11_Theirs.f k x.f0 x.f1 x.f2).bind fun bt372 => (tree_Print.f k bt372.1 bt372.2.1 bt372.2.2).bind fun bt380 => (trystref08_PrintTree.f k x.f0 x.f1 x.f2).bind fun bt382 => if bt380.1.toList = bt382.1.toList then (if bt380.2 = bt382.2 then ((tree_Formed.f k bt372.1 bt372.2.1 bt372.2.2).bind fun t384 => (trystref08_FormedTree.f k x.f0 x.f1 x.f2).bind fun t385 => if (t384 == t385) = true then ((tree_Count.f k bt372.1 bt372.2.1 bt372.2.2).bind fun t386 => (trystref08_Count.f k x.f0 x.f1 x.f2).bind fun t387 => some (t386 == t387)) else some false) else some false) else some false) (fun k => by simp only [trystlaw11_TreePrints.j0]; rw [if_neg (by simp)]) ?_
    refine Ev.bind (theirsT _ x (Nat.lt_succ_self _) hx) (Ev.bind (prTP x hx hs hg) (Ev.bind (prTR x hx hs hg) ?_))
    refine Ev.congr (f := fun k => (tree_Formed.f k x.f0 (x.f1.map toL) (x.f2.map toT)).bind fun t384 => (trystref08_FormedTree.f k x.f0 x.f1 x.f2).bind fun t385 => if (t384 == t385) = true then ((tree_Count.f k x.f0 (x.f1.map toL) (x.f2.map toT)).bind fun t386 => (trystref08_Count.f k x.f0 x.f1 x.f2).bind fun t387 => some (t386 == t387)) else some false) (fun k => by rw [if_pos rfl, if_pos rfl]) ?_
    refine Ev.bind (formTP x hx hs) (Ev.bind (formTR x hx hs) ?_)
    refine Ev.congr (f := fun k => (tree_Count.f k x.f0 (x.f1.map toL) (x.f2.map toT)).bind fun t386 => (trystref08_Count.f k x.f0 x.f1 x.f2).bind fun t387 => some (t386 == t387)) (fun k => by rw [if_pos (by simp)]) ?_
    refine Ev.bind (cntP _ x (Nat.lt_succ_self _) hx) (Ev.bind (cntR _ x (Nat.lt_succ_self _) hx) ?_)
    rw [beq_self_eq_true]
    exact Ev.now _
  refine Ev.rounds (r := true) ?_
  refine Ev.bind awake11 ?_
  refine Ev.congr (f := fun k => (trystlaw11_Few.f k x.f0 x.f1 x.f2).bind fun t => trystlaw11_TreePrints.j0 k (!t) x.f0 x.f1 x.f2) (fun k => by rw [if_pos rfl]) ?_
  cases hf : formT x with
  | false =>
    obtain ⟨b, hb⟩ := fewT' x hx
    refine Ev.bind hb ?_
    cases b with
    | false => exact hno
    | true => exact hyes (fun h => by rw [hf] at h; cases h)
  | true =>
    obtain ⟨b, hb, hg⟩ := fewX x hx hs (by unfold formT at hf; simp only [Bool.and_eq_true] at hf; exact hf.1)
    refine Ev.bind hb ?_
    cases b with
    | false => exact hno
    | true => exact hyes (fun _ => hg rfl)
end Go.Proofs.YtdojmdbaiddkgaaGreatDoor.Pure
end
section
set_option linter.unusedVariables false
namespace Go.Proofs.YtdojmdbaiddkgaaGreatDoor.Tabs
open Go Go.RowKit Go.Lib Go.Proofs.YtdojmdbaiddkgaaGreatDoor.Args
theorem tabsTreeP {W : World} (h : laidMetH Tryz.prog Rows.treePrintsRow.laid W) : Print.GG W := by
  rw [MakeChecks.laidMetH_plain _ _ _ (by kernel_rfl)] at h
  exact gg_of_laid h
theorem walkTreeP (v0 : Value) (z0 : RTree) (w : World) (hG : Print.GG w) (w0 : IsTree w v0 z0 ∧ Pure.TS z0) :
    Calls Tryz.prog 3 #[v0] w fun e w' => e = .returned (.bool true) ∧ Below w.heap.size w w' := by
  obtain ⟨⟨b0, A0, c0, B0, d0, rfl, l0, h0, m0, g0⟩, s0⟩ := w0
  obtain ⟨k, hk⟩ := Pure.treePrints_pure z0 b0 s0
  exact Print.trystlaw11_TreePrints.calls k z0.f0 A0 c0 z0.f1 B0 d0 z0.f2 true w hG h0 l0 g0 m0 hk
end Go.Proofs.YtdojmdbaiddkgaaGreatDoor.Tabs
end
