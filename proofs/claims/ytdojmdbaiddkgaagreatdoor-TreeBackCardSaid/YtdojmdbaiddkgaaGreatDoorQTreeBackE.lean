/- Texts of the proof of TreeBack, put together: PLineBU PUnfU PUnfRU PCutU PBackU PRun Print16 Print17 PTBack GoTreeB. -/
import Derived.Test.YtdojmdbaiddkgaaGreatDoorProg
import Derived.Below
import Derived.Deep.Draws
import Derived.Deep.AppendLies
import Derived.Maps.AppendAt
import Derived.OwnWalk
import Derived.Laws.BytesArg
import Derived.Laws.MakeOwn
import Derived.Laws.OwnMore
import Derived.Deep.OwnRows
import Derived.Tactics
import Derived.Lib.ConvBytes
import Derived.Laws.Slices
import Derived.WalkKit
import Derived.KernelRfl
import Derived.RowKit3
import Derived.Deep.LoopGhost
import Derived.Deep.QuietTactic
import Derived.BigQuiet
import Derived.WideLaws
import Derived.Deep.DeepCutAuto
import Derived.Deep.CutBlock
import Derived.Deep.RegionHeld3
import Derived.Laws.Rows
import Derived.Lib.AppendStr
import Derived.ArgAppend
import Derived.Laws.IdiomCopy
import Derived.OrdersHeld
import Derived.Laws.BitsLemmas
import Derived.RowKit
import Derived.Test.YtdojmdbaiddkgaaGreatDoorQTreeBackWMore
import Derived.Shelf.Unicode.ValidAny
import Derived.Shelf.Strings.Builder1
import Derived.Shelf.Strings.Builder2
import Derived.Shelf.Small.Utf8
import Derived.Shelf.Small.Strs
import Derived.Shelf.Strings.BuilderF
import Derived.Shelf.Strings.BuilderK
import Derived.Shelf.Strings.Builder2Cap
import Derived.Shelf.Strings.Search1
import Derived.Shelf.Strings.Search2
import Derived.Shelf.Strings.Search3
import Derived.Shelf.Strings.Count
import Derived.Shelf.LaysM
import Derived.Shelf.Strings.Shaped
import Derived.Shelf.Strings.Prefix
import Derived.Shelf.Strings.Runes
import Derived.Shelf.Strings.IndexAny
import Derived.Shelf.Strings.AsciiSet
import Derived.Shelf.Strings.IndexAnyAll
import Derived.Shelf.Unicode.DecodeSlow
import Derived.Shelf.Unicode.DecodeAny
import Derived.Shelf.Strings.BuilderCap
import Derived.Shelf.Slices.Equal
import Derived.Shelf.Slices.Empties2
import Derived.WalkSpells
import Derived.Laws.Runes
import Derived.Laws.RangeAny
import Derived.Laws.RangeString
import Derived.Lib.IndexAny
import Derived.Lib.SpaceUEq
import Derived.Lib.RuneCount
import Derived.Lib.QuoteLoop
import Derived.Lib.Hide
import Derived.Lib.OthersKept
import Derived.Lib.DecodeN
import Derived.IntWalk
import Derived.Test.YtdojmdbaiddkgaaGreatDoorQTreeBackWWords
import Derived.Test.YtdojmdbaiddkgaaGreatDoorQTreeBackWLast
import Derived.Test.YtdojmdbaiddkgaaGreatDoorQTreeBackWTab
import Derived.Test.YtdojmdbaiddkgaaGreatDoorQTreeBackWQPut
import Derived.Test.YtdojmdbaiddkgaaGreatDoorQTreeBackWApart
import Derived.Test.YtdojmdbaiddkgaaGreatDoorQTreeBackWArr
import Derived.Test.YtdojmdbaiddkgaaGreatDoorQTreeBackWZeros
import Derived.Test.YtdojmdbaiddkgaaGreatDoorQTreeBackWFoot
import Derived.Test.YtdojmdbaiddkgaaGreatDoorQTreeBackWKept
import Derived.Test.YtdojmdbaiddkgaaGreatDoorQTreeBackWShare
import Derived.Test.YtdojmdbaiddkgaaGreatDoorQTreeBackWN
import Derived.Test.YtdojmdbaiddkgaaGreatDoorQTreeBackWRepsOne
import Derived.Test.YtdojmdbaiddkgaaGreatDoorQTreeBackWInv
import Derived.Test.YtdojmdbaiddkgaaGreatDoorQTreeBackWGuard
import Derived.Test.YtdojmdbaiddkgaaGreatDoorQTreeBackWNEv
import Derived.Laws.NewBlocks
import Derived.Lib.ValidU
import Derived.Lib.TrimUEq
import Derived.Lib.ValidLaws
import Derived.Lib.MapLaws
import Derived.Outline
import Derived.Laws.CopyRow
import Derived.Laws.CopyOwn
import Derived.Deep.RegionWith
import Derived.Deep.WholeRow
import Derived.Tactics2
import Derived.Defers
import Derived.Laws.Pointers
import Derived.Laws.LoneSync
import Derived.RegionTactic
import Derived.RegionCalls
import Derived.Lib.SmallJoins
import Derived.Shelf.Unicode.DecodeLastEight
import Derived.Laws.IdiomStrings
import Derived.Lib.IndexLaws
import Derived.Lib.LazyBuf
import Derived.Test.YtdojmdbaiddkgaaGreatDoorRows
import Derived.Lib.LaidU8T
import Derived.PinnedBridge
import Derived.MakeChecks
import Derived.ProofKit
import Derived.SliceStrings
import Derived.SizedLaws
import Derived.Deep.Slices
import Derived.Test.YtdojmdbaiddkgaaGreatDoorQTreeBackD
section
set_option linter.unusedVariables false
set_option linter.unusedSimpArgs false
set_option linter.unusedSectionVars false
namespace Go.Proofs.YtdojmdbaiddkgaaGreatDoor.Pure
open Go.RowKit Go.Proofs.YtdojmdbaiddkgaaGreatDoor.Print Go.Proofs.YtdojmdbaiddkgaaGreatDoorW.PrintWords Go.Proofs.YtdojmdbaiddkgaaGreatDoorW.PrintLast Go.Proofs.YtdojmdbaiddkgaaGreatDoorW.PrintMore
def ofP (x : LP) : RP := ⟨x.f0, x.f1⟩
theorem ofP_toP : ∀ l : List RP, (l.map toP).map ofP = l
  | [] => rfl
  | p :: t => by rw [List.map_cons, List.map_cons, ofP_toP t]; rfl
theorem ours_ev (nm v : ByteArray) (l : List LP) (hl : l.length < 3518437208883) :
    ∀ (d i : Nat) (acc : List RP), i + d = l.length → acc.length = i → Ev (fun k => trystlaw10_Ours.l0 k (l.length : Int) (i : Int) nm l v nm acc v) (nm, acc ++ (l.drop i).map ofP, v) := by
  intro d
  induction d with
  | zero =>
    intro i acc hi ha
    rw [List.drop_eq_nil_of_le (by omega), List.map_nil, List.append_nil]
    exact Ev.step (f := fun _ => some (nm, acc, v)) (fun k => by simp only [trystlaw10_Ours.l0]; rw [if_neg (by omega)]) (Ev.now _)
  | succ d ih =>
    intro i acc hi ha
    have hil : i < l.length := by omega
    have := ih (i + 1) (acc ++ [ofP l[i]]) (by omega) (by simp [ha])
    rw [List.drop_eq_getElem_cons hil, List.map_cons, List.append_cons]
    refine Ev.step (fun k => ?_) this
    simp only [trystlaw10_Ours.l0]
    rw [if_pos (by omega), if_pos (by omega), if_pos (by omega), rdP l i hil, if_pos (by omega), wrapS i _ hil (by omega)]
    rfl
theorem ours (nm v : ByteArray) (l : List LP) (hl : l.length < 3518437208883) : Ev (fun k => trystlaw10_Ours.f k nm l v) (nm, l.map ofP, v) := by
  have := ours_ev nm v l hl l.length 0 [] (by omega) rfl
  rw [List.nil_append, List.drop_zero] at this
  exact this
theorem emptyL : (⟨#[]⟩ : ByteArray).toList = [] := by rw [Lib.toList_data]
end Go.Proofs.YtdojmdbaiddkgaaGreatDoor.Pure
end
section
set_option linter.unusedVariables false
set_option linter.unusedSimpArgs false
set_option linter.unusedSectionVars false
namespace Go.Proofs.YtdojmdbaiddkgaaGreatDoor.Pure
open Go.RowKit Go.Proofs.YtdojmdbaiddkgaaGreatDoor.Print Go.Proofs.YtdojmdbaiddkgaaGreatDoorW.PrintWords Go.Proofs.YtdojmdbaiddkgaaGreatDoorW.PrintLast Go.Proofs.YtdojmdbaiddkgaaGreatDoorW.PrintMore
/-- A text up to its first line feed, and what is behind it. -/
def splitNL : List UInt8 → Option (List UInt8 × List UInt8)
  | [] => none
  | c :: t => if c = 10 then some ([], t) else (splitNL t).map fun q => (c :: q.1, q.2)
theorem splitNL_none : ∀ (l : List UInt8), splitNL l = none → Lib.indexByte l 10 = -1
  | [], _ => rfl
  | c :: t, h => by
    unfold splitNL at h
    by_cases hc : c = 10
    · rw [if_pos hc] at h; cases h
    · rw [if_neg hc, Option.map_eq_none_iff] at h
      have := splitNL_none t h
      unfold Lib.indexByte
      simp [hc, this]
theorem splitNL_some : ∀ (l p r : List UInt8), splitNL l = some (p, r) → l = p ++ 10 :: r ∧ Lib.indexByte l 10 = (p.length : Int)
  | [], p, r, h => by cases h
  | c :: t, p, r, h => by
    unfold splitNL at h
    by_cases hc : c = 10
    · rw [if_pos hc] at h
      cases h
      subst hc
      exact ⟨rfl, by unfold Lib.indexByte; simp⟩
    · rw [if_neg hc, Option.map_eq_some_iff] at h
      obtain ⟨⟨p', r'⟩, h1, h2⟩ := h
      cases h2
      have := splitNL_some t p' r' h1
      refine ⟨by rw [this.1]; rfl, ?_⟩
      unfold Lib.indexByte
      simp [hc, this.2]
/-- Without a carriage return at the end. -/
def trimCR (p : List UInt8) : List UInt8 := if p.getLast? = some 13 then p.dropLast else p
def badP (p : List UInt8) : Bool := p.isEmpty || p.any (· == 13)
def goesP (p : List UInt8) : Bool := p.getD 0 0 == 32 || p.getD 0 0 == 9
def addLast (acc : List S95) (t : List UInt8) : List S95 := acc.set (acc.length - 1) ⟨(rd_T95 acc ((acc.length - 1 : Nat) : Int)).f0 ++ ⟨t.toArray⟩, (rd_T95 acc ((acc.length - 1 : Nat) : Int)).f1⟩
/-- A text, cut into lines; the number of a piece that is wrong. -/
def cutG : Nat → List UInt8 → List S95 → Nat → List S95 × Int
  | 0, _, acc, _ => (acc, 0)
  | k + 1, l, acc, n => if l = [] then (acc, 0) else
      match splitNL l with
      | none => ([], (n : Int))
      | some (q, r) => if badP (trimCR q) = true then ([], (n : Int)) else
          if goesP (trimCR q) = true then (if acc = [] then ([], (n : Int)) else cutG k r (addLast acc ((trimCR q).drop 1)) (n + 1))
          else cutG k r (acc ++ [⟨⟨(trimCR q).toArray⟩, (n : Int)⟩]) (n + 1)
/-- The lines, looked at one by one. -/
def finR : List S95 → List S95 → List ByteArray × Int × Int
  | [], all => (all.map (·.f0), 0, 0)
  | x :: t, all => if Lib.validD x.f0.data.toList = true then (if x.f0.size > 2000 then ([], x.f1, 4) else finR t all) else ([], x.f1, 3)
def unfB (p : List S95 × Int) : List ByteArray × Int × Int := if p.2 > 0 then ([], p.2, 5) else finR p.1 p.1
def unfA (s : ByteArray) : List ByteArray × Int × Int := if s.size > 20000 then ([], 0, 4) else unfB (cutG s.size s.data.toList [] 1)
theorem ba_eq (s : ByteArray) : (⟨s.data.toList.toArray⟩ : ByteArray) = s := by cases s; simp
/-- What is known of the lines so far. -/
structure Acc (acc : List S95) (m : Nat) : Prop where
  len : acc.length + m ≤ 20000
  sz : ∀ x ∈ acc, x.f0.size + m ≤ 20000
theorem Acc.nil : Acc [] 20000 := ⟨by simp, fun x hx => by cases hx⟩
theorem Acc.less {acc : List S95} {m k : Nat} (h : Acc acc m) (hk : k ≤ m) : Acc acc k := ⟨by have := h.len; omega, fun x hx => by have := h.sz x hx; omega⟩
theorem rd_mem (acc : List S95) (h : acc ≠ []) : rd_T95 acc ((acc.length - 1 : Nat) : Int) ∈ acc := by
  have hl : 0 < acc.length := List.length_pos_iff.2 h
  unfold rd_T95
  rw [Int.toNat_natCast, List.getD_eq_getElem?_getD, List.getElem?_eq_getElem (by omega)]
  exact List.getElem_mem _
theorem Acc.add {acc : List S95} {m k : Nat} {t : List UInt8} (h : Acc acc m) (hne : acc ≠ []) (hk : t.length + k ≤ m) : Acc (addLast acc t) k := by
  refine ⟨by unfold addLast; rw [List.length_set]; have := h.len; omega, fun x hx => ?_⟩
  unfold addLast at hx
  rcases List.mem_or_eq_of_mem_set hx with hx | rfl
  · have := h.sz x hx; omega
  · have := h.sz _ (rd_mem acc hne)
    show (_ ++ _ : ByteArray).size + k ≤ 20000
    rw [ByteArray.size_append]
    have e : (⟨t.toArray⟩ : ByteArray).size = t.length := by show t.toArray.size = _; rw [List.size_toArray]
    omega
theorem Acc.new {acc : List S95} {m k : Nat} {p : List UInt8} {n : Int} (h : Acc acc m) (hk : p.length + k + 1 ≤ m) (hm : m ≤ 20000) : Acc (acc ++ [⟨⟨p.toArray⟩, n⟩]) k := by
  refine ⟨by rw [List.length_append]; have := h.len; simp; omega, fun x hx => ?_⟩
  rcases List.mem_append.1 hx with hx | hx
  · have := h.sz x hx; omega
  · rw [List.mem_singleton.1 hx]
    have e : (⟨p.toArray⟩ : ByteArray).size = p.length := by show p.toArray.size = _; rw [List.size_toArray]
    show (⟨p.toArray⟩ : ByteArray).size + k ≤ 20000
    omega
theorem trimCR_len (p : List UInt8) : (trimCR p).length ≤ p.length := by
  unfold trimCR; split
  · rw [List.length_dropLast]; omega
  · exact Nat.le_refl _
theorem split_len {l p r : List UInt8} (h : splitNL l = some (p, r)) : p.length + r.length + 1 = l.length := by
  rw [(splitNL_some l p r h).1]; simp; omega
theorem ba_size (l : List UInt8) : (⟨l.toArray⟩ : ByteArray).size = l.length := by show l.toArray.size = _; rw [List.size_toArray]
theorem ba_extU (l : List UInt8) (a b : Nat) : (⟨l.toArray⟩ : ByteArray).extract a b = ⟨((l.drop a).take (b - a)).toArray⟩ := by
  apply ByteArray.ext
  rw [ByteArray.data_extract]
  simp [List.extract_eq_take_drop]
theorem ba_toList (l : List UInt8) : (⟨l.toArray⟩ : ByteArray).toList = l := by rw [Lib.toList_data]
theorem trim_f (q : List UInt8) (h : q.length ≤ 20000) : strings_TrimSuffix.f ⟨q.toArray⟩ ⟨#[13]⟩ = some ⟨(trimCR q).toArray⟩ := by
  have e1 : (⟨#[13]⟩ : ByteArray).size = 1 := rfl
  have e2 : (⟨#[13]⟩ : ByteArray).toList = [13] := by rw [Lib.toList_data]
  unfold strings_TrimSuffix.f stringslite_TrimSuffix.f stringslite_HasSuffix.f
  rw [ba_size, e1, e2]
  by_cases h0 : q = []
  · subst h0; rfl
  · have hl : 0 < q.length := List.length_pos_iff.2 h0
    have hw : wrap64 ((q.length : Int) - ((1 : Nat) : Int)) = ((q.length - 1 : Nat) : Int) := by unfold wrap64; omega
    rw [if_pos (by omega), hw, if_pos (by omega), if_pos (by omega), Int.toNat_natCast, ba_extU, ba_toList]
    have hlast : (q.drop (q.length - 1)).take (q.length - (q.length - 1)) = [q.getLast h0] := by
      rw [List.drop_eq_getElem_cons (by omega), List.drop_of_length_le (by omega), List.getLast_eq_getElem, show q.length - (q.length - 1) = 1 by omega]; rfl
    rw [hlast]
    simp only [Option.bind_some]
    unfold trimCR
    rw [List.getLast?_eq_some_getLast h0]
    by_cases hc : q.getLast h0 = 13
    · rw [hc]
      simp only [beq_self_eq_true, if_true]
      rw [if_pos (by omega), if_pos (by omega), ba_extU]
      simp [List.dropLast_eq_take]
    · have : ([q.getLast h0] == [(13 : UInt8)]) = false := by simpa using hc
      rw [this, if_neg (by simp), if_neg (by simpa using hc)]
      rfl
theorem has_cr (p : List UInt8) (hp : p ≠ []) : decide (0 ≤ Lib.indexByte p 13) = p.any (· == 13) := by
  clear hp
  induction p with
  | nil => rfl
  | cons c t ih =>
    have hge := Lib.indexByte_ge t 13
    unfold Lib.indexByte
    rw [List.any_cons, ← ih]
    by_cases hc : c = 13
    · simp [hc]
    · by_cases h1 : Lib.indexByte t 13 = -1
      · simp [hc, h1]
      · have h0 : 0 ≤ Lib.indexByte t 13 := by omega
        simp [hc, h1, h0]; omega
theorem piece_none (l : List UInt8) (h : splitNL l = none) : fold_piece.f ⟨l.toArray⟩ = some (⟨#[]⟩, ⟨#[]⟩, false) := by
  unfold fold_piece.f strings_IndexByte.f
  have e : Lib.indexByte (⟨l.toArray⟩ : ByteArray).data.toList (10 : Int).toNat.toUInt8 = -1 := splitNL_none l h
  rw [e]
  simp only [Option.bind_some]
  rw [if_pos (by omega)]
theorem piece_some (l q r : List UInt8) (hl : l.length ≤ 20000) (h : splitNL l = some (q, r)) : fold_piece.f ⟨l.toArray⟩ = some (⟨(trimCR q).toArray⟩, ⟨r.toArray⟩, !badP (trimCR q)) := by
  obtain ⟨e1, e2⟩ := splitNL_some l q r h
  have hlen := split_len h
  unfold fold_piece.f strings_IndexByte.f
  have e : Lib.indexByte (⟨l.toArray⟩ : ByteArray).data.toList (10 : Int).toNat.toUInt8 = (q.length : Int) := e2
  rw [e, Option.bind_some]
  have hw : wrap64 ((q.length : Int) + 1) = ((q.length + 1 : Nat) : Int) := wrap_one _ (by omega)
  rw [if_neg (by omega), if_pos (by omega), ba_size, if_pos (by omega), Int.toNat_natCast, ba_extU]
  have eq : (l.drop 0).take (q.length - 0) = q := by rw [e1]; simp
  rw [eq, trim_f q (by omega), Option.bind_some, hw, if_pos (by omega), if_pos (by omega), Int.toNat_natCast, ba_extU, ba_toList]
  have er : (l.drop (q.length + 1)).take (l.length - (q.length + 1)) = r := by
    rw [List.take_of_length_le (by rw [List.length_drop]; omega), e1, show q ++ 10 :: r = (q ++ [10]) ++ r by simp, List.drop_left' (by simp)]
  rw [er]
  clear e hw eq er e1 e2
  by_cases hp : trimCR q = []
  · rw [if_pos hp, hp, show badP [] = true from rfl]; simp only [Bool.not_true]
  · rw [if_neg hp]
    unfold strings_ContainsRune.f
    have eb : badP (trimCR q) = (trimCR q).any (· == 13) := by
      unfold badP
      cases ht : trimCR q with
      | nil => exact absurd ht hp
      | cons c t => rfl
    have e13 : ((13 : Int).toNat.toUInt8) = 13 := rfl
    rw [if_pos (by omega), eb, ← has_cr _ hp, e13, Option.bind_some]
theorem cut_end (k n : Nat) (acc : List S95) : fold_cut.l0 (k + 1) ⟨#[]⟩ acc n = some (acc, 0) := by
  simp only [fold_cut.l0]
  rw [if_pos (by rw [Lib.toList_data])]
theorem goesU (c : UInt8) : fold_goesOn.f c.toNat = some (c == 32 || c == 9) := by
  unfold fold_goesOn.f
  by_cases h : c = 32
  · subst h; rfl
  · have e1 : (c == 32) = false := beq_eq_false_iff_ne.2 h
    rw [if_neg (show ¬ (c.toNat : Int) = 32 from ne_nat c 32 (by omega) h), e1]
    by_cases h9 : c = 9
    · subst h9; rfl
    · have e2 : (c == 9) = false := beq_eq_false_iff_ne.2 h9
      rw [e2, beq_eq_false_iff_ne.2 (show ¬ (c.toNat : Int) = 9 from ne_nat c 9 (by omega) h9)]; rfl
theorem ba_bt0 (p : List UInt8) : bt ⟨p.toArray⟩ 0 = ((p.getD 0 0).toNat : Int) := bt_nat ⟨p.toArray⟩ 0
theorem cut_bad (k n : Nat) (l : List UInt8) (acc : List S95) (hne : l ≠ []) (p r : ByteArray) (hp : fold_piece.f ⟨l.toArray⟩ = some (p, r, false)) : fold_cut.l0 (k + 3) ⟨l.toArray⟩ acc n = some ([], (n : Int)) := by
  simp only [fold_cut.l0, hp, Option.bind_some, fold_cut.j1, fold_cut.j2]
  rw [if_neg (by rw [ba_toList]; exact hne)]
  simp
theorem cut_none (k n : Nat) (l p : List UInt8) (r : ByteArray) (hne : l ≠ []) (hpne : p ≠ []) (hp : fold_piece.f ⟨l.toArray⟩ = some (⟨p.toArray⟩, r, true)) (hg : goesP p = true) : fold_cut.l0 (k + 3) ⟨l.toArray⟩ [] n = some ([], (n : Int)) := by
  have hl : 0 < p.length := List.length_pos_iff.2 hpne
  unfold goesP at hg
  simp only [fold_cut.l0, hp, Option.bind_some, if_true, ba_bt0, goesU, hg, fold_cut.j1, fold_cut.j2]
  rw [if_neg (by rw [ba_toList]; exact hne), ba_size p, if_pos (by omega)]
  simp
theorem cut_more (k n : Nat) (l p r : List UInt8) (acc : List S95) (hne : l ≠ []) (hpne : p ≠ []) (ha : acc ≠ []) (hA : Acc acc (p.length)) (hal : acc.length ≤ 20000) (hn : n ≤ 20000) (hp : fold_piece.f ⟨l.toArray⟩ = some (⟨p.toArray⟩, ⟨r.toArray⟩, true)) (hg : goesP p = true) :
    fold_cut.l0 (k + 3) ⟨l.toArray⟩ acc n = fold_cut.l0 k ⟨r.toArray⟩ (addLast acc (p.drop 1)) ((n + 1 : Nat) : Int) := by
  have hl : 0 < p.length := List.length_pos_iff.2 hpne
  have hal0 : 0 < acc.length := List.length_pos_iff.2 ha
  have hsz := hA.sz _ (rd_mem acc ha)
  have e0 : ((acc.length : Int) == 0) = false := beq_eq_false_iff_ne.2 (by omega)
  have hw : wrap64 ((acc.length : Int) - 1) = ((acc.length - 1 : Nat) : Int) := by unfold wrap64; omega
  unfold goesP at hg
  simp only [fold_cut.l0, hp, Option.bind_some, if_true, ba_bt0, goesU, hg, fold_cut.j1, fold_cut.j2, e0, hw]
  have hc : (rd_T95 acc ((acc.length - 1 : Nat) : Int)).f0.size + ((⟨p.toArray⟩ : ByteArray).extract 1 p.length).size ≤ 9223372036854775807 := by rw [ByteArray.size_extract, ba_size p]; omega
  rw [if_neg (by rw [ba_toList]; exact hne), ba_size p, if_pos (by omega), if_neg (by simp), if_pos (by omega), if_pos (by omega), if_pos (by omega), if_pos hc, ba_extU p, wrap_one n (by omega), Int.toNat_natCast]
  rw [List.take_of_length_le (by rw [List.length_drop]; omega)]
  rfl
theorem cut_new (k n : Nat) (l p r : List UInt8) (acc : List S95) (hne : l ≠ []) (hpne : p ≠ []) (hal : acc.length ≤ 20000) (hn : n ≤ 20000) (hp : fold_piece.f ⟨l.toArray⟩ = some (⟨p.toArray⟩, ⟨r.toArray⟩, true)) (hg : goesP p = false) :
    fold_cut.l0 (k + 3) ⟨l.toArray⟩ acc n = fold_cut.l0 k ⟨r.toArray⟩ (acc ++ [⟨⟨p.toArray⟩, (n : Int)⟩]) ((n + 1 : Nat) : Int) := by
  have hl : 0 < p.length := List.length_pos_iff.2 hpne
  unfold goesP at hg
  simp only [fold_cut.l0, hp, Option.bind_some, if_true, ba_bt0, goesU, hg, fold_cut.j1, fold_cut.j2]
  rw [if_neg (by rw [ba_toList]; exact hne), ba_size p, if_pos (by omega)]
  simp only [Bool.false_eq_true, if_false]
  rw [if_pos (by omega), wrap_one n (by omega)]
theorem ev3 {α : Type} {g f : Nat → Option α} {r : α} (h : ∀ k, g (k + 3) = f k) (hf : Ev f r) : Ev g r := by
  obtain ⟨K, hK⟩ := hf
  refine ⟨K + 3, fun k hk => ?_⟩
  obtain ⟨j, rfl⟩ : ∃ j, k = j + 3 := ⟨k - 3, by omega⟩
  rw [h j]; exact hK j (by omega)
theorem badP_ne (p : List UInt8) (h : badP p = false) : p ≠ [] := by
  intro e; subst e; cases h
theorem cut_ev : ∀ (m n : Nat) (l : List UInt8) (acc : List S95), l.length ≤ m → Acc acc l.length → n + l.length ≤ 20001 → Ev (fun k => fold_cut.l0 k ⟨l.toArray⟩ acc n) (cutG m l acc n)
  | 0, n, l, acc, hl, hA, hn => by
    obtain rfl : l = [] := List.length_eq_zero_iff.1 (by omega)
    exact Ev.step (f := fun _ => some (acc, 0)) (fun k => cut_end k n acc) (Ev.now _)
  | m + 1, n, l, acc, hl, hA, hn => by
    unfold cutG
    by_cases hne : l = []
    · subst hne
      rw [if_pos rfl]
      exact Ev.step (f := fun _ => some (acc, 0)) (fun k => cut_end k n acc) (Ev.now _)
    rw [if_neg hne]
    have hlen := hA.len
    cases hs : splitNL l with
    | none => exact ev3 (f := fun _ => some ([], (n : Int))) (fun k => cut_bad k n l acc hne _ _ (piece_none l hs)) (Ev.now _)
    | some qr =>
      obtain ⟨q, r⟩ := qr
      have hq := split_len hs
      have ht := trimCR_len q
      have hp := piece_some l q r (by omega) hs
      simp only
      generalize trimCR q = p at *
      cases hb : badP p
      · rw [hb] at hp
        have hpne := badP_ne p hb
        simp only [Bool.false_eq_true, if_false]
        cases hg : goesP p
        · simp only [Bool.false_eq_true, if_false]
          refine ev3 (fun k => cut_new k n l p r acc hne hpne (by omega) (by omega) hp hg) ?_
          exact cut_ev m (n + 1) r _ (by omega) (hA.new (by omega) (by omega)) (by omega)
        · simp only [if_true]
          by_cases ha : acc = []
          · subst ha
            rw [if_pos rfl]
            exact ev3 (f := fun _ => some ([], (n : Int))) (fun k => cut_none k n l p _ hne hpne hp hg) (Ev.now _)
          · rw [if_neg ha]
            refine ev3 (fun k => cut_more k n l p r acc hne hpne ha (hA.less (by omega)) (by omega) (by omega) hp hg) ?_
            have hp0 : 0 < p.length := List.length_pos_iff.2 hpne
            exact cut_ev m (n + 1) r _ (by omega) (hA.add ha (by rw [List.length_drop]; omega)) (by omega)
      · rw [hb] at hp
        simp only [if_true]
        exact ev3 (f := fun _ => some ([], (n : Int))) (fun k => cut_bad k n l acc hne _ _ hp) (Ev.now _)
theorem rd78 (X : List S95) (i : Nat) (h : i < X.length) : rd_T95 X (i : Int) = X[i] := by
  unfold rd_T95
  rw [Int.toNat_natCast, List.getD_eq_getElem?_getD, List.getElem?_eq_getElem h]; rfl
theorem fin_ev (X : List S95) (hl : X.length ≤ 20000) (hs : ∀ x ∈ X, x.f0.size ≤ 20000) : ∀ (n i : Nat), X.length - i ≤ n → i ≤ X.length →
    Ev (fun k => fold_Unfold.l0 k ((X.take i).map (·.f0)) X (X.length : Int) (i : Int)) (finR (X.drop i) X)
  | 0, i, hn, hi => by
    obtain rfl : i = X.length := by omega
    rw [List.drop_length, List.take_length]
    exact Ev.step (f := fun _ => some (X.map (·.f0), 0, 0)) (fun k => by simp only [fold_Unfold.l0]; rw [if_neg (by omega)]) (Ev.now _)
  | n + 1, i, hn, hi => by
    by_cases hlt : i < X.length
    case neg => exact fin_ev X hl hs n i (by omega) hi
    have hx := hs X[i] (List.getElem_mem hlt)
    have hr := rd78 X i hlt
    have ih := fin_ev X hl hs n (i + 1) (by omega) (by omega)
    rw [List.take_succ_eq_append_getElem hlt, List.map_append] at ih
    rw [List.drop_eq_getElem_cons hlt]
    unfold finR
    generalize X[i] = x at *
    have hv : utf8_ValidString.f x.f0 = some (Lib.validD x.f0.data.toList) := by unfold utf8_ValidString.f; rw [if_pos (by omega)]
    have hlen : ((X.take i).map (·.f0)).length = i := by rw [List.length_map, List.length_take]; omega
    by_cases h1 : Lib.validD x.f0.data.toList = true
    · rw [if_pos h1]
      by_cases h2 : x.f0.size > 2000
      · rw [if_pos h2]
        refine Ev.step (f := fun _ => some ([], x.f1, 4)) (fun k => ?_) (Ev.now _)
        simp only [fold_Unfold.l0, hr, hv, h1, Option.bind_some, if_true]
        rw [if_pos (by omega), if_pos (by omega), if_pos (by omega), if_pos (by omega)]
      · rw [if_neg h2]
        refine Ev.step (fun k => ?_) ih
        simp only [fold_Unfold.l0, hr, hv, h1, Option.bind_some, if_true]
        rw [if_pos (by omega), if_pos (by omega), if_pos (by omega), if_neg (by omega), hlen, if_pos (by omega), wrap_one i (by omega)]
        rfl
    · rw [if_neg h1]
      rw [Bool.not_eq_true] at h1
      refine Ev.step (f := fun _ => some ([], x.f1, 3)) (fun k => ?_) (Ev.now _)
      simp only [fold_Unfold.l0, hr, hv, h1, Option.bind_some]
      rw [if_pos (by omega), if_pos (by omega), if_pos (by omega), if_neg (by simp)]
theorem cutG_acc : ∀ (m n : Nat) (l : List UInt8) (acc : List S95), Acc acc l.length → Acc (cutG m l acc n).1 0
  | 0, n, l, acc, hA => hA.less (by omega)
  | m + 1, n, l, acc, hA => by
    unfold cutG
    have hlen := hA.len
    have e0 : Acc [] 0 := Acc.nil.less (by omega)
    by_cases hne : l = []
    · rw [if_pos hne]; exact hA.less (by omega)
    rw [if_neg hne]
    cases hs : splitNL l with
    | none => exact e0
    | some qr =>
      obtain ⟨q, r⟩ := qr
      have hq := split_len hs
      have ht := trimCR_len q
      simp only
      generalize trimCR q = p at *
      split
      · exact e0
      · rename_i hb
        rw [Bool.not_eq_true] at hb
        have hp0 : 0 < p.length := List.length_pos_iff.2 (badP_ne p hb)
        split
        · split
          · exact e0
          · rename_i ha
            exact cutG_acc m (n + 1) r _ (hA.add ha (by rw [List.length_drop]; omega))
        · exact cutG_acc m (n + 1) r _ (hA.new (by omega) (by omega))
theorem unfold_ev (s : ByteArray) (hs : s.size ≤ 140737488351232) : Ev (fun k => fold_Unfold.f k s) (unfA s) := by
  unfold unfA
  by_cases h : s.size > 20000
  · rw [if_pos h]
    refine Ev.congr (f := fun _ => some ([], 0, 4)) (fun k => ?_) (Ev.now _)
    unfold fold_Unfold.f; rw [if_pos (by omega)]
  · rw [if_neg h]
    have e : s.data.toList.length = s.size := by simp
    have hA : Acc [] s.data.toList.length := Acc.nil.less (by omega)
    have hc := cut_ev s.size 1 s.data.toList [] (by omega) hA (by omega)
    rw [ba_eq] at hc
    have hacc := cutG_acc s.size 1 s.data.toList [] hA
    refine Ev.congr (f := fun k => (fold_cut.f k s).bind fun bt256 => if bt256.2 > 0 then some (([] : List ByteArray), bt256.2, 5) else fold_Unfold.l0 k ([] : List ByteArray) bt256.1 (bt256.1.length : Int) 0) (fun k => by unfold fold_Unfold.f; rw [if_neg (by omega)]) ?_
    refine Ev.bind hc ?_
    unfold unfB
    generalize cutG s.size s.data.toList [] 1 = P at *
    by_cases hb : P.2 > 0
    · simp only [if_pos hb]; exact Ev.now _
    · simp only [if_neg hb]
      exact fin_ev P.1 (by have := hacc.len; omega) (fun x hx => by have := hacc.sz x hx; omega) P.1.length 0 (by omega) (by omega)
end Go.Proofs.YtdojmdbaiddkgaaGreatDoor.Pure
end
section
set_option linter.unusedVariables false
set_option linter.unusedSimpArgs false
set_option linter.unusedSectionVars false
namespace Go.Proofs.YtdojmdbaiddkgaaGreatDoor.Pure
open Go.RowKit Go.Proofs.YtdojmdbaiddkgaaGreatDoor.Print Go.Proofs.YtdojmdbaiddkgaaGreatDoorW.PrintWords Go.Proofs.YtdojmdbaiddkgaaGreatDoorW.PrintLast Go.Proofs.YtdojmdbaiddkgaaGreatDoorW.PrintMore
abbrev RU := List ByteArray × Int × Int
section
variable {s : ByteArray} (hs : s.size ≤ 20000) {x5 : List ByteArray} {x6 : List Int} {n b : Int} {R : RU}
include hs
end
/-- What is done with a piece. -/
def goOn (m : Nat) (p r : List UInt8) (acc : List S95) (n : Nat) : List S95 × Int :=
  if badP p = true then ([], (n : Int)) else
    if goesP p = true then (if acc = [] then ([], (n : Int)) else cutG m r (addLast acc (p.drop 1)) (n + 1))
    else cutG m r (acc ++ [⟨⟨p.toArray⟩, (n : Int)⟩]) (n + 1)
theorem cutG_none (m n : Nat) (l : List UInt8) (acc : List S95) (hne : l ≠ []) (h : splitNL l = none) : cutG (m + 1) l acc n = ([], (n : Int)) := by
  rw [cutG, if_neg hne, h]
theorem cutG_some (m n : Nat) (l q r : List UInt8) (acc : List S95) (hne : l ≠ []) (h : splitNL l = some (q, r)) : cutG (m + 1) l acc n = goOn m (trimCR q) r acc n := by
  rw [cutG, if_neg hne, h]; rfl
theorem unfB_ok (X : List S95) : unfB (X, 0) = finR X X := by unfold unfB; rw [if_neg (show ¬ (0 : Int) > 0 by omega)]
end Go.Proofs.YtdojmdbaiddkgaaGreatDoor.Pure
end
section
set_option linter.unusedVariables false
set_option linter.unusedSimpArgs false
set_option linter.unusedSectionVars false
namespace Go.Proofs.YtdojmdbaiddkgaaGreatDoor.Pure
open Go.RowKit Go.Proofs.YtdojmdbaiddkgaaGreatDoor.Print Go.Proofs.YtdojmdbaiddkgaaGreatDoorW.PrintWords Go.Proofs.YtdojmdbaiddkgaaGreatDoorW.PrintLast Go.Proofs.YtdojmdbaiddkgaaGreatDoorW.PrintMore
theorem nl_cons {c : UInt8} {t : List UInt8} (h : (c :: t).any nlB = false) : c ≠ 13 ∧ c ≠ 10 ∧ t.any nlB = false := by
  rw [List.any_cons, Bool.or_eq_false_iff] at h
  refine ⟨?_, ?_, h.2⟩
  · intro e; rw [e] at h; exact absurd h.1 (by decide)
  · intro e; rw [e] at h; exact absurd h.1 (by decide)
theorem nl_append {a b : List UInt8} (h : (a ++ b).any nlB = false) : a.any nlB = false ∧ b.any nlB = false := by
  rw [List.any_append, Bool.or_eq_false_iff] at h; exact h
theorem nl_take {l : List UInt8} (k : Nat) (h : l.any nlB = false) : (l.take k).any nlB = false ∧ (l.drop k).any nlB = false :=
  nl_append (by rw [List.take_append_drop]; exact h)
theorem split_lf : ∀ (p r : List UInt8), p.any nlB = false → splitNL (p ++ 10 :: r) = some (p, r)
  | [], r, _ => rfl
  | c :: t, r, h => by
    obtain ⟨_, h10, ht⟩ := nl_cons h
    rw [List.cons_append, splitNL, if_neg h10, split_lf t r ht]; rfl
theorem split_crlf : ∀ (p r : List UInt8), p.any nlB = false → splitNL (p ++ 13 :: 10 :: r) = some (p ++ [13], r)
  | [], r, _ => rfl
  | c :: t, r, h => by
    obtain ⟨_, h10, ht⟩ := nl_cons h
    rw [List.cons_append, splitNL, if_neg h10, split_crlf t r ht]; rfl
theorem no13 : ∀ (p : List UInt8), p.any nlB = false → p.any (· == 13) = false
  | [], _ => rfl
  | c :: t, h => by
    obtain ⟨h13, _, ht⟩ := nl_cons h
    rw [List.any_cons, no13 t ht, beq_eq_false_iff_ne.2 h13]; rfl
theorem trim_cr (p : List UInt8) : trimCR (p ++ [13]) = p := by unfold trimCR; simp
theorem trim_no (p : List UInt8) (h : p.any nlB = false) : trimCR p = p := by
  unfold trimCR
  rw [if_neg]
  intro e
  have hm := List.mem_of_getLast? e
  have h2 := no13 p h
  rw [List.any_eq_false] at h2
  exact h2 13 hm (by decide)
def Eol (e : List UInt8) : Prop := e = [13, 10] ∨ e = [10]
theorem cut_step (e p r : List UInt8) (he : Eol e) (hp : p.any nlB = false) (m n : Nat) (acc : List S95) : cutG (m + 1) (p ++ e ++ r) acc n = goOn m p r acc n := by
  rcases he with rfl | rfl
  · rw [show p ++ [13, 10] ++ r = p ++ 13 :: 10 :: r by simp, cutG_some m n _ (p ++ [13]) r acc (by simp) (split_crlf p r hp), trim_cr]
  · rw [show p ++ [10] ++ r = p ++ 10 :: r by simp, cutG_some m n _ p r acc (by simp) (split_lf p r hp), trim_no p hp]
theorem notbad (p : List UInt8) (hne : p ≠ []) (hp : p.any nlB = false) : badP p = false := by
  unfold badP
  rw [no13 p hp, Bool.or_false]
  cases p with
  | nil => exact absurd rfl hne
  | cons a t => rfl
theorem go_first (m n : Nat) (p r : List UInt8) (acc : List S95) (hne : p ≠ []) (hp : p.any nlB = false) (hg : goesP p = false) : goOn m p r acc n = cutG m r (acc ++ [⟨⟨p.toArray⟩, (n : Int)⟩]) (n + 1) := by
  unfold goOn
  rw [notbad p hne hp, hg]
  simp only [Bool.false_eq_true, if_false]
theorem addLast_snoc (acc : List S95) (p q : List UInt8) (n0 : Int) : addLast (acc ++ [⟨⟨p.toArray⟩, n0⟩]) q = acc ++ [⟨⟨(p ++ q).toArray⟩, n0⟩] := by
  have hl : (acc ++ [(⟨⟨p.toArray⟩, n0⟩ : S95)]).length - 1 = acc.length := by simp
  have hr : rd_T95 (acc ++ [(⟨⟨p.toArray⟩, n0⟩ : S95)]) ((acc.length : Nat) : Int) = ⟨⟨p.toArray⟩, n0⟩ := by
    unfold rd_T95
    rw [Int.toNat_natCast, List.getD_eq_getElem?_getD]
    simp
  unfold addLast
  rw [hl, hr, List.set_append_right _ _ (Nat.le_refl _), Nat.sub_self, List.set_cons_zero]
  have e : (⟨p.toArray⟩ : ByteArray) ++ ⟨q.toArray⟩ = ⟨(p ++ q).toArray⟩ := by
    apply ByteArray.ext
    rw [ByteArray.data_append]
    simp
  show acc ++ [(⟨(⟨p.toArray⟩ : ByteArray) ++ ⟨q.toArray⟩, n0⟩ : S95)] = _
  rw [e]
theorem go_more (m n : Nat) (b : UInt8) (hb : b = 32 ∨ b = 9) (p q r : List UInt8) (acc : List S95) (n0 : Int) (hq : q.any nlB = false) : goOn m (b :: q) r (acc ++ [⟨⟨p.toArray⟩, n0⟩]) n = cutG m r (acc ++ [⟨⟨(p ++ q).toArray⟩, n0⟩]) (n + 1) := by
  have hg : goesP (b :: q) = true := by rcases hb with rfl | rfl <;> rfl
  have hbq : (b :: q).any nlB = false := by
    rw [List.any_cons, hq, Bool.or_false]
    rcases hb with rfl | rfl <;> decide
  unfold goOn
  rw [notbad _ (by simp) hbq, hg]
  simp only [Bool.false_eq_true, if_false, if_true]
  rw [if_neg (by simp), show (b :: q).drop 1 = q from rfl, addLast_snoc]
theorem cutG_fuel : ∀ (m m' n : Nat) (l : List UInt8) (acc : List S95), l.length ≤ m → l.length ≤ m' → cutG m l acc n = cutG m' l acc n
  | 0, m', n, l, acc, h, h' => by
    obtain rfl : l = [] := List.length_eq_zero_iff.1 (by omega)
    cases m' with
    | zero => rfl
    | succ j => rw [cutG, cutG, if_pos rfl]
  | m + 1, 0, n, l, acc, h, h' => by
    obtain rfl : l = [] := List.length_eq_zero_iff.1 (by omega)
    rw [cutG, cutG, if_pos rfl]
  | m + 1, m' + 1, n, l, acc, h, h' => by
    by_cases hne : l = []
    · rw [cutG, cutG, if_pos hne, if_pos hne]
    cases hs : splitNL l with
    | none => rw [cutG_none _ _ _ _ hne hs, cutG_none _ _ _ _ hne hs]
    | some qr =>
      obtain ⟨q, r⟩ := qr
      have hq := split_len hs
      rw [cutG_some _ _ _ q r _ hne hs, cutG_some _ _ _ q r _ hne hs]
      unfold goOn
      rw [cutG_fuel m m' (n + 1) r _ (by omega) (by omega), cutG_fuel m m' (n + 1) r (acc ++ _) (by omega) (by omega)]
def cutT (l : List UInt8) (acc : List S95) (n : Nat) : List S95 × Int := cutG l.length l acc n
theorem cutT_first (e p r : List UInt8) (he : Eol e) (acc : List S95) (n : Nat) (hne : p ≠ []) (hp : p.any nlB = false) (hg : goesP p = false) : cutT (p ++ e ++ r) acc n = cutT r (acc ++ [⟨⟨p.toArray⟩, (n : Int)⟩]) (n + 1) := by
  have hl : 0 < p.length := List.length_pos_iff.2 hne
  unfold cutT
  obtain ⟨m, hm⟩ : ∃ m, (p ++ e ++ r).length = m + 1 := ⟨(p ++ e ++ r).length - 1, by simp only [List.length_append]; omega⟩
  rw [hm, cut_step e p r he hp, go_first m n p r acc hne hp hg]
  exact cutG_fuel _ _ _ _ _ (by simp only [List.length_append] at hm; omega) (Nat.le_refl _)
theorem cutT_more (e q r : List UInt8) (he : Eol e) (b : UInt8) (hb : b = 32 ∨ b = 9) (acc : List S95) (p : List UInt8) (n0 : Int) (n : Nat) (hq : q.any nlB = false) : cutT ((b :: q) ++ e ++ r) (acc ++ [⟨⟨p.toArray⟩, n0⟩]) n = cutT r (acc ++ [⟨⟨(p ++ q).toArray⟩, n0⟩]) (n + 1) := by
  have hbq : (b :: q).any nlB = false := by
    rw [List.any_cons, hq, Bool.or_false]
    rcases hb with rfl | rfl <;> decide
  unfold cutT
  obtain ⟨m, hm⟩ : ∃ m, ((b :: q) ++ e ++ r).length = m + 1 := ⟨((b :: q) ++ e ++ r).length - 1, by simp only [List.length_append, List.length_cons]; omega⟩
  rw [hm, cut_step e _ r he hbq, go_more m n b hb p q r acc n0 hq]
  exact cutG_fuel _ _ _ _ _ (by simp only [List.length_append, List.length_cons] at hm; omega) (Nat.le_refl _)
def contT (l : List UInt8) : List UInt8 := if l = [] then [] else 32 :: oneT l 74
theorem oneT_cont (l : List UInt8) (r : Nat) (hne : l ≠ []) (hr : 4 ≤ r) : oneT l r = l.take (takeT l r) ++ [13, 10] ++ contT (l.drop (takeT l r)) := by
  rw [oneT_step l r hne hr]
  unfold contT
  by_cases h : l.drop (takeT l r) = []
  · rw [if_pos h, if_pos h, h, oneT_nil]; simp
  · rw [if_neg h, if_neg h]; simp
theorem cutT_cont (r : List UInt8) (acc : List S95) (n0 : Int) : ∀ (k : Nat) (l p : List UInt8) (n : Nat), l.length ≤ k → l.any nlB = false → ∃ n', cutT (contT l ++ r) (acc ++ [⟨⟨p.toArray⟩, n0⟩]) n = cutT r (acc ++ [⟨⟨(p ++ l).toArray⟩, n0⟩]) n'
  | 0, l, p, n, hk, hl => by
    obtain rfl : l = [] := List.length_eq_zero_iff.1 (by omega)
    exact ⟨n, by rw [List.append_nil]; rfl⟩
  | k + 1, l, p, n, hk, hl => by
    by_cases hne : l = []
    · subst hne; exact ⟨n, by rw [List.append_nil]; rfl⟩
    have h1 := takeT_pos l 74 hne (by omega)
    have hc : contT l ++ r = (32 :: l.take (takeT l 74)) ++ [13, 10] ++ (contT (l.drop (takeT l 74)) ++ r) := by
      rw [contT, if_neg hne, oneT_cont l 74 hne (by omega)]; simp
    obtain ⟨ha, hb⟩ := nl_take (takeT l 74) hl
    rw [hc, cutT_more [13, 10] _ _ (.inl rfl) 32 (.inl rfl) acc p n0 n ha]
    have hlen : 0 < l.length := List.length_pos_iff.2 hne
    obtain ⟨n', h⟩ := cutT_cont r acc n0 k (l.drop (takeT l 74)) (p ++ l.take (takeT l 74)) (n + 1) (by rw [List.length_drop]; omega) hb
    exact ⟨n', by rw [h, List.append_assoc, List.take_append_drop]⟩
theorem goesP_take (l : List UInt8) (k : Nat) (hk : 1 ≤ k) : goesP (l.take k) = goesP l := by
  unfold goesP
  have : (l.take k).getD 0 0 = l.getD 0 0 := by
    cases l with
    | nil => simp
    | cons a t =>
      obtain ⟨j, rfl⟩ : ∃ j, k = j + 1 := ⟨k - 1, by omega⟩
      rfl
  rw [this]
theorem cutT_line (l r : List UInt8) (acc : List S95) (n : Nat) (hne : l ≠ []) (hl : l.any nlB = false) (hg : goesP l = false) : ∃ n', cutT (oneT l 75 ++ r) acc n = cutT r (acc ++ [⟨⟨l.toArray⟩, (n : Int)⟩]) n' := by
  have h1 := takeT_pos l 75 hne (by omega)
  have hlen : 0 < l.length := List.length_pos_iff.2 hne
  obtain ⟨ha, hb⟩ := nl_take (takeT l 75) hl
  have hc : oneT l 75 ++ r = l.take (takeT l 75) ++ [13, 10] ++ (contT (l.drop (takeT l 75)) ++ r) := by
    rw [oneT_cont l 75 hne (by omega)]; simp
  rw [hc, cutT_first [13, 10] _ _ (.inl rfl) acc n (by intro e; have := congrArg List.length e; rw [List.length_take] at this; simp only [List.length_nil] at this; omega) ha (by rw [goesP_take l _ h1]; exact hg)]
  obtain ⟨n', h⟩ := cutT_cont r acc (n : Int) _ (l.drop (takeT l 75)) (l.take (takeT l 75)) (n + 1) (Nat.le_refl _) hb
  exact ⟨n', by rw [h, List.take_append_drop]⟩
end Go.Proofs.YtdojmdbaiddkgaaGreatDoor.Pure
end
section
set_option linter.unusedVariables false
set_option linter.unusedSimpArgs false
set_option linter.unusedSectionVars false
namespace Go.Proofs.YtdojmdbaiddkgaaGreatDoor.Pure
open Go.RowKit Go.Proofs.YtdojmdbaiddkgaaGreatDoor.Print Go.Proofs.YtdojmdbaiddkgaaGreatDoorW.PrintWords Go.Proofs.YtdojmdbaiddkgaaGreatDoorW.PrintLast Go.Proofs.YtdojmdbaiddkgaaGreatDoorW.PrintMore
def textT : List ByteArray → List UInt8
  | [] => []
  | x :: t => oneT x.data.toList 75 ++ textT t
structure Good (s : ByteArray) : Prop where
  ne : s.data.toList ≠ []
  nl : s.data.toList.any nlB = false
  go : goesP s.data.toList = false
theorem good_of (s : ByteArray) (h : badF s = false) : Good s := by
  unfold badF at h
  rw [Bool.or_eq_false_iff, Bool.or_eq_false_iff, Bool.or_eq_false_iff, contains_nl] at h
  obtain ⟨⟨⟨h1, h2⟩, h3⟩, h4⟩ := h
  refine ⟨?_, h4, ?_⟩
  · intro e; rw [e] at h1; cases h1
  · unfold goesP; rw [h2, h3]; rfl
theorem back_cut : ∀ (X : List ByteArray) (acc : List S95) (n : Nat), (∀ x ∈ X, Good x) → ∃ Y : List S95, cutT (textT X) acc n = (acc ++ Y, 0) ∧ Y.map (·.f0) = X
  | [], acc, n, _ => ⟨[], by rw [List.append_nil]; exact ⟨rfl, rfl⟩⟩
  | x :: t, acc, n, h => by
    have hx := h x (by simp)
    obtain ⟨n', h1⟩ := cutT_line x.data.toList (textT t) acc n hx.ne hx.nl hx.go
    obtain ⟨Y, h2, h3⟩ := back_cut t (acc ++ [⟨⟨x.data.toList.toArray⟩, (n : Int)⟩]) n' (fun y hy => h y (by simp [hy]))
    refine ⟨⟨⟨x.data.toList.toArray⟩, (n : Int)⟩ :: Y, ?_, ?_⟩
    · rw [textT, h1, h2, List.append_assoc]; rfl
    · rw [List.map_cons, h3, ba_eq]
theorem foldR_ok : ∀ (X : List ByteArray) (A : List UInt8), (foldR X A).2 = 0 → (foldR X A).1 = ⟨(A ++ textT X).toArray⟩ ∧ (A ++ textT X).length ≤ 20000 ∧ ∀ x ∈ X, x.size ≤ 2000
  | [], A, h => by
    unfold foldR at h ⊢
    by_cases hl : A.length > 20000
    · rw [if_pos hl] at h; exact absurd h (by decide)
    · rw [if_neg hl, textT, List.append_nil]; exact ⟨rfl, by omega, fun x hx => by cases hx⟩
  | s :: t, A, h => by
    unfold foldR at h ⊢
    by_cases hl : s.size > 2000 ∨ A.length > 20000
    · rw [if_pos hl] at h; exact absurd h (by decide)
    · rw [if_neg hl] at h ⊢
      obtain ⟨h1, h2, h3⟩ := foldR_ok t _ h
      rw [List.append_assoc] at h1 h2
      refine ⟨h1, h2, fun x hx => ?_⟩
      rcases List.mem_cons.1 hx with rfl | hx
      · omega
      · exact h3 x hx
theorem foldR_no : ∀ (X : List ByteArray) (A : List UInt8), (foldR X A).2 ≠ 0 → (foldR X A).1 = ⟨#[]⟩
  | [], A, h => by
    unfold foldR at h ⊢
    by_cases hl : A.length > 20000
    · rw [if_pos hl]
    · rw [if_neg hl] at h; exact absurd rfl h
  | s :: t, A, h => by
    unfold foldR at h ⊢
    by_cases hl : s.size > 2000 ∨ A.length > 20000
    · rw [if_pos hl]
    · rw [if_neg hl] at h ⊢; exact foldR_no t _ h
theorem finR_ok : ∀ (t X : List S95), (∀ x ∈ t, Lib.validD x.f0.data.toList = true) → (∀ x ∈ t, x.f0.size ≤ 2000) → finR t X = (X.map (·.f0), 0, 0)
  | [], X, _, _ => rfl
  | x :: t, X, h1, h2 => by
    unfold finR
    have := h2 x (by simp)
    rw [if_pos (h1 x (by simp)), if_neg (by omega)]
    exact finR_ok t X (fun y hy => h1 y (by simp [hy])) (fun y hy => h2 y (by simp [hy]))
theorem back_unf (X : List ByteArray) (hg : ∀ x ∈ X, Good x) (hl : (textT X).length ≤ 20000) (hs : ∀ x ∈ X, x.size ≤ 2000) (hv : ∀ x ∈ X, Lib.validD x.data.toList = true) : unfA ⟨(textT X).toArray⟩ = (X, 0, 0) := by
  obtain ⟨Y, h1, h2⟩ := back_cut X [] 1 hg
  unfold unfA
  rw [ba_size, if_neg (by omega)]
  show unfB (cutT (textT X) [] 1) = _
  rw [h1, List.nil_append, unfB_ok]
  have hm : ∀ y ∈ Y, y.f0 ∈ X := fun y hy => by rw [← h2]; exact List.mem_map.2 ⟨y, hy, rfl⟩
  rw [finR_ok Y Y (fun y hy => hv _ (hm y hy)) (fun y hy => hs _ (hm y hy)), h2]
end Go.Proofs.YtdojmdbaiddkgaaGreatDoor.Pure
end
section
set_option linter.unusedVariables false
set_option linter.unusedSimpArgs false
set_option linter.unusedSectionVars false
namespace Go.Proofs.YtdojmdbaiddkgaaGreatDoor.Pure
open Go.RowKit Go.Proofs.YtdojmdbaiddkgaaGreatDoor.Print Go.Proofs.YtdojmdbaiddkgaaGreatDoorW.PrintWords Go.Proofs.YtdojmdbaiddkgaaGreatDoorW.PrintLast Go.Proofs.YtdojmdbaiddkgaaGreatDoorW.PrintMore
theorem up_okB (c : UInt8) (h : upB c = true) : okB false c = true := by
  have h1 : ∀ c : Fin 256, upB (UInt8.ofFin c) = true → okB false (UInt8.ofFin c) = true := by decide +kernel
  exact h1 c.toFin h
theorem up_clean (n : ByteArray) (h : nameR n = true) : cleanR false n.data.toList = 0 := by
  have h1 := (nameR_of h).1
  refine clean_of ?_ (List.all_eq_true.2 fun c hc => up_okB c (List.all_eq_true.1 h1 c hc))
  have := up_valid n.data.toList [] h1
  rw [List.append_nil] at this
  rw [this]; decide +kernel
theorem form_bound (b n : ByteArray) (hb : nameR b = true) (h : nameR n = true) : formR b [] n = true := by
  unfold formR
  rw [hb, decide_eq_true (up_clean n h)]; rfl
def begT (n : ByteArray) : ByteArray := (⟨#[66, 69, 71, 73, 78, 58]⟩ : ByteArray) ++ n
def endT (n : ByteArray) : ByteArray := (⟨#[69, 78, 68, 58]⟩ : ByteArray) ++ n
theorem ba_of {a b : ByteArray} (h : a.data.toList = b.data.toList) : a = b := ba_ext h
theorem begT_line (n : ByteArray) : begT n = ⟨(lineT tgBegin [] n).toArray⟩ := ba_of (by
  show ((⟨#[66, 69, 71, 73, 78, 58]⟩ : ByteArray) ++ n).data.toList = (lineT tgBegin [] n).toArray.toList
  rw [ByteArray.data_append, Array.toList_append, List.toList_toArray]; rfl)
theorem endT_line (n : ByteArray) : endT n = ⟨(lineT tgEnd [] n).toArray⟩ := ba_of (by
  show ((⟨#[69, 78, 68, 58]⟩ : ByteArray) ++ n).data.toList = (lineT tgEnd [] n).toArray.toList
  rw [ByteArray.data_append, Array.toList_append, List.toList_toArray]; rfl)
theorem bound_len (b n : ByteArray) (hb : b.size ≤ 60) (h : n.size ≤ 60) : (lineT b [] n).length ≤ 2000 := by
  unfold lineT
  have e1 : b.data.toList.length = b.size := by simp
  have e2 : n.data.toList.length = n.size := by simp
  rw [List.length_append, List.length_append, List.length_cons, e1, e2]
  simp only [parsT, List.length_nil]
  omega
/-- One line, read. -/
theorem read_line (x : ByteArray) (xs : List ByteArray) (i : Nat) (s s' : RdS) (nm v : ByteArray) (ps : List LP) (R : TreeR) (hi : i < 300) (hp : Ev (fun k => line_Parse.f k x) (nm, ps, v, 0, 0)) (hv : v.size ≤ 140737488351232)
    (hs : ∀ ok : Bool, (ok = nameR (greatS v)) → stepR s ⟨nm, ps, v⟩ (greatS v) ok = .ok s') (H : Ev (fun k => tree_Parse.l0 k xs (i + 1) s') R) : Ev (fun k => tree_Parse.l0 k (x :: xs) i s) R := by
  have hg : line_Great.f v = some (greatS v) := by unfold line_Great.f; rw [if_pos (by omega)]
  have hgs : (greatS v).size = v.size := by
    unfold greatS
    show (List.map greatB v.data.toList).toArray.size = _
    rw [List.size_toArray, List.length_map]; simp
  refine Ev.congr (f := fun k => (line_Parse.f k x).bind fun q => if q.2.2.2.2 = 0 then (if 300 ≤ i then some (errT ((i : Int) + 1) 9) else (line_Great.f q.2.2.1).bind fun gr => (line_Name.f k gr).bind fun ok => nextR i (stepR s ⟨q.1, q.2.1, q.2.2.1⟩ gr ok) (tree_Parse.l0 k xs (i + 1))) else some (errT ((i : Int) + 1) q.2.2.2.2)) (fun k => rfl) ?_
  refine Ev.bind hp ?_
  refine Ev.congr (f := fun k => (line_Name.f k (greatS v)).bind fun ok => nextR i (stepR s ⟨nm, ps, v⟩ (greatS v) ok) (tree_Parse.l0 k xs (i + 1))) (fun k => ?_) ?_
  · show (if (0 : Int) = 0 then _ else _) = _
    rw [if_pos rfl, if_neg (by omega)]
    show (line_Great.f v).bind _ = _
    rw [hg]; rfl
  · refine Ev.bind (nameL (greatS v) (by omega)) ?_
    refine Ev.congr (fun k => ?_) H
    rw [hs _ rfl]; rfl
theorem tgB_name : nameR tgBegin = true := by decide +kernel
theorem tgE_name : nameR tgEnd = true := by decide +kernel
theorem tgE_ne : tgEnd ≠ tgBegin := by decide
theorem read_begin (n : ByteArray) (hn : nameR n = true) (xs : List ByteArray) (i : Nat) (l : List PT) (R : TreeR) (hi : i < 300) (hl : l.length < 4) (H : Ev (fun k => tree_Parse.l0 k xs (i + 1) (.op (⟨n, [], []⟩ :: l))) R) : Ev (fun k => tree_Parse.l0 k (begT n :: xs) i (.op l)) R := by
  have hn2 := nameR_of hn
  have hg := great_of n hn2.1
  rw [begT_line]
  refine read_line _ xs i _ (.op (⟨n, [], []⟩ :: l)) tgBegin n [] R hi (parse_line tgBegin n [] (form_bound _ _ tgB_name hn) (bound_len _ _ (by decide) hn2.2.2)) (by omega) (fun ok hok => ?_) H
  rw [hg] at hok ⊢
  rw [hok, hn]
  cases l with
  | nil => simp only [stepR]; rw [if_pos trivial, if_pos ⟨trivial, trivial⟩]
  | cons t r =>
    simp only [List.length_cons] at hl
    simp only [stepR]; rw [if_pos trivial, if_pos ⟨trivial, trivial⟩, if_neg (by omega)]
theorem read_end (t : PT) (hn : nameR t.f0 = true) (xs : List ByteArray) (i : Nat) (l : List PT) (R : TreeR) (hi : i < 300) (H : Ev (fun k => tree_Parse.l0 k xs (i + 1) (popR t l)) R) : Ev (fun k => tree_Parse.l0 k (endT t.f0 :: xs) i (.op (t :: l))) R := by
  have hn2 := nameR_of hn
  have hg := great_of t.f0 hn2.1
  rw [endT_line]
  refine read_line _ xs i _ (popR t l) tgEnd t.f0 [] R hi (parse_line tgEnd t.f0 [] (form_bound _ _ tgE_name hn) (bound_len _ _ (by decide) hn2.2.2)) (by omega) (fun ok hok => ?_) H
  rw [hg] at hok ⊢
  rw [hok, hn]
  simp only [stepR]; rw [if_neg tgE_ne, if_pos trivial, if_pos ⟨trivial, trivial⟩, if_pos trivial]
theorem bnd_ne {n : ByteArray} (h : bndB n = false) : n ≠ tgBegin ∧ n ≠ tgEnd := by
  unfold bndB at h
  rw [Bool.or_eq_false_iff, decide_eq_false_iff_not, decide_eq_false_iff_not] at h
  exact ⟨fun e => h.1 (by rw [e, Lib.toList_data]), fun e => h.2 (by rw [e, Lib.toList_data])⟩
/-- A line of a tree, written. -/
def lnB (x : RL) : ByteArray := (printR x.f0 (x.f1.map toP) x.f2).1
theorem okL_bnd {x : RL} (h : okL x = true) : bndB x.f0 = false := by
  unfold okL at h
  simp only [Bool.and_eq_true, Bool.not_eq_true'] at h
  exact h.2
theorem print_ok {nm : ByteArray} {l : List LP} {v : ByteArray} (hf : formR nm l v = true) (h : (printR nm l v).2 = 0) : (printR nm l v).1 = ⟨(lineT nm l v).toArray⟩ ∧ (lineT nm l v).length ≤ 2000 := by
  unfold printR lineR at h ⊢
  rw [if_pos hf] at h ⊢
  by_cases h2 : 2000 < (lineT nm l v).length
  · rw [if_pos h2] at h; exact absurd h (show ¬ (4 : Int) = 0 by decide)
  · rw [if_neg h2]; exact ⟨rfl, by omega⟩
theorem lineT_val (nm : ByteArray) (l : List LP) (v : ByteArray) : v.size ≤ (lineT nm l v).length := by
  unfold lineT
  have e2 : v.data.toList.length = v.size := by simp
  rw [List.length_append, List.length_cons, e2]; omega
theorem read_row (x : RL) (hx : okL x = true) (h0 : (printR x.f0 (x.f1.map toP) x.f2).2 = 0) (xs : List ByteArray) (i : Nat) (n : ByteArray) (ls : List PL) (l : List PT) (R : TreeR) (hi : i < 300) (H : Ev (fun k => tree_Parse.l0 k xs (i + 1) (.op (⟨n, ls ++ [toL x], []⟩ :: l))) R) :
    Ev (fun k => tree_Parse.l0 k (lnB x :: xs) i (.op (⟨n, ls, []⟩ :: l))) R := by
  have hf := okL_of hx
  obtain ⟨h1, h2⟩ := print_ok hf h0
  obtain ⟨b1, b2⟩ := bnd_ne (okL_bnd hx)
  unfold lnB
  rw [h1]
  refine read_line _ xs i _ _ x.f0 x.f2 (x.f1.map toP) R hi (parse_line x.f0 x.f2 (x.f1.map toP) hf h2) (by have := lineT_val x.f0 (x.f1.map toP) x.f2; omega) (fun ok _ => ?_) H
  simp only [stepR]; rw [if_neg b1, if_neg b2, if_pos trivial]; rfl
theorem read_rows : ∀ (L : List RL) (xs : List ByteArray) (i : Nat) (n : ByteArray) (ls : List PL) (l : List PT) (R : TreeR), (∀ x ∈ L, okL x = true ∧ (printR x.f0 (x.f1.map toP) x.f2).2 = 0) → i + L.length ≤ 300 →
    Ev (fun k => tree_Parse.l0 k xs (i + L.length) (.op (⟨n, ls ++ L.map toL, []⟩ :: l))) R → Ev (fun k => tree_Parse.l0 k (L.map lnB ++ xs) i (.op (⟨n, ls, []⟩ :: l))) R
  | [], xs, i, n, ls, l, R, _, _, H => by
    rw [List.map_nil, List.append_nil] at H
    exact H
  | x :: t, xs, i, n, ls, l, R, h, hi, H => by
    rw [List.length_cons] at hi H
    obtain ⟨h1, h2⟩ := h x (by simp)
    rw [List.map_cons, List.cons_append]
    refine read_row x h1 h2 _ i n ls l R (by omega) (read_rows t xs (i + 1) n (ls ++ [toL x]) l R (fun y hy => h y (by simp [hy])) (by omega) ?_)
    rw [show i + 1 + t.length = i + (t.length + 1) by omega, List.append_assoc]
    exact H
theorem lnL_ok : ∀ (L : List RL) (a : List ByteArray), (lnL L a).2 = 0 → (lnL L a).1 = a ++ L.map lnB ∧ ∀ x ∈ L, (printR x.f0 (x.f1.map toP) x.f2).2 = 0
  | [], a, _ => ⟨by simp [lnL], fun x hx => by simp at hx⟩
  | y :: r, a, h => by
    unfold lnL at h ⊢
    by_cases h0 : (printR y.f0 (y.f1.map toP) y.f2).2 = 0
    · rw [if_pos h0] at h ⊢
      obtain ⟨h1, h2⟩ := lnL_ok r _ h
      refine ⟨by rw [h1, List.append_assoc]; rfl, fun x hx => ?_⟩
      rcases List.mem_cons.1 hx with rfl | hx
      · exact h0
      · exact h2 x hx
    · rw [if_neg h0] at h; exact absurd h h0
theorem lnK_ok : ∀ (K : List RT) (a : List ByteArray), (lnK K a).2 = 0 → (lnK K a).1 = a ++ K.flatMap (fun t => (lnT t).1) ∧ ∀ t ∈ K, (lnT t).2 = 0
  | [], a, _ => ⟨by simp [lnK], fun x hx => by simp at hx⟩
  | y :: r, a, h => by
    simp only [lnK] at h ⊢
    by_cases h0 : (lnT y).2 = 0
    · rw [if_pos h0] at h ⊢
      obtain ⟨h1, h2⟩ := lnK_ok r _ h
      refine ⟨by rw [h1, List.append_assoc, List.flatMap_cons], fun x hx => ?_⟩
      rcases List.mem_cons.1 hx with rfl | hx
      · exact h0
      · exact h2 x hx
    · rw [if_neg h0] at h; exact absurd h h0
theorem lnT_ok (t : RT) (h : (lnT t).2 = 0) : (lnT t).1 = begT t.f0 :: (t.f1.map lnB ++ (t.f2.flatMap (fun t => (lnT t).1) ++ [endT t.f0])) ∧ (∀ x ∈ t.f1, (printR x.f0 (x.f1.map toP) x.f2).2 = 0) ∧ ∀ x ∈ t.f2, (lnT x).2 = 0 := by
  rw [lnT_f] at h ⊢
  unfold lnTl at h ⊢
  by_cases h0 : (lnL t.f1 [(⟨#[66, 69, 71, 73, 78, 58]⟩ : ByteArray) ++ t.f0]).2 = 0
  · rw [if_pos h0] at h ⊢
    obtain ⟨a1, a2⟩ := lnL_ok _ _ h0
    unfold finL at h ⊢
    by_cases h1 : (lnK t.f2 (lnL t.f1 [(⟨#[66, 69, 71, 73, 78, 58]⟩ : ByteArray) ++ t.f0]).1).2 = 0
    · rw [if_pos h1]
      obtain ⟨b1, b2⟩ := lnK_ok _ _ h1
      refine ⟨?_, a2, b2⟩
      show (lnK t.f2 _).1 ++ [endT t.f0] = _
      rw [b1, a1]
      simp [begT]
    · rw [if_neg h1] at h; exact absurd h h1
  · rw [if_neg h0] at h; exact absurd h h0
theorem flat_len : ∀ (K : List RT), (∀ t ∈ K, (lnT t).1.length = nL t) → (K.flatMap (fun t => (lnT t).1)).length = nLs K
  | [], _ => by simp [nLs]
  | t :: r, h => by
    rw [List.flatMap_cons, List.length_append, h t (by simp), flat_len r (fun x hx => h x (by simp [hx]))]
    simp only [nLs]
theorem lnT_num : ∀ (N : Nat) (t : RT), SizeOf.sizeOf t < N → (lnT t).2 = 0 → (lnT t).1.length = nL t
  | 0, t, h, _ => by omega
  | N + 1, t, h, h0 => by
    obtain ⟨e, _, hk⟩ := lnT_ok t h0
    rw [e, nL_f, List.length_cons, List.length_append, List.length_append, List.length_map, List.length_singleton, flat_len t.f2 (fun x hx => lnT_num N x (by have := kid_lt hx; omega) (hk x hx))]
    omega
/-- The state behind an inner component. -/
theorem read_kids (d : Nat) (n : ByteArray) (ls : List PL) (l : List PT) : ∀ (K : List RT), (∀ t ∈ K, ∀ (xs : List ByteArray) (i : Nat) (st : List PT) (R : TreeR), st.length + d ≤ 4 → i + nL t ≤ 300 → Ev (fun k => tree_Parse.l0 k xs (i + nL t) (popR (toT t) st)) R → Ev (fun k => tree_Parse.l0 k ((lnT t).1 ++ xs) i (.op st)) R) →
    ∀ (xs : List ByteArray) (i : Nat) (acc : List PT) (R : TreeR), l.length + 1 + d ≤ 4 → i + nLs K ≤ 300 → Ev (fun k => tree_Parse.l0 k xs (i + nLs K) (.op (⟨n, ls, acc ++ K.map toT⟩ :: l))) R →
    Ev (fun k => tree_Parse.l0 k (K.flatMap (fun t => (lnT t).1) ++ xs) i (.op (⟨n, ls, acc⟩ :: l))) R
  | [], _, xs, i, acc, R, _, _, H => by
    simp only [nLs, List.map_nil, List.append_nil] at H
    exact H
  | t :: r, ih, xs, i, acc, R, hd, hi, H => by
    simp only [nLs] at hi H
    rw [List.flatMap_cons, List.append_assoc]
    refine ih t (by simp) _ i _ R (by simpa using hd) (by omega) ?_
    show Ev (fun k => tree_Parse.l0 k (r.flatMap (fun t => (lnT t).1) ++ xs) (i + nL t) (.op (⟨n, ls, acc ++ [toT t]⟩ :: l))) R
    refine read_kids d n ls l r (fun x hx => ih x (by simp [hx])) xs (i + nL t) (acc ++ [toT t]) R hd (by omega) ?_
    rw [show i + nL t + nLs r = i + (nL t + nLs r) by omega, List.append_assoc]
    exact H
theorem read_tree : ∀ (N : Nat) (t : RT), SizeOf.sizeOf t < N → ∀ d, okT d t = true → (lnT t).2 = 0 → ∀ (xs : List ByteArray) (i : Nat) (st : List PT) (R : TreeR), st.length + d ≤ 4 → i + nL t ≤ 300 →
    Ev (fun k => tree_Parse.l0 k xs (i + nL t) (popR (toT t) st)) R → Ev (fun k => tree_Parse.l0 k ((lnT t).1 ++ xs) i (.op st)) R
  | 0, t, h => by omega
  | N + 1, t, h => by
    intro d hok h0 xs i st R hd hi H
    obtain ⟨o1, o2, o3, o4⟩ := okT_of hok
    obtain ⟨e, hl, hk⟩ := lnT_ok t h0
    rw [nL_f] at hi H
    rw [e, List.cons_append, List.append_assoc, List.append_assoc, List.singleton_append]
    refine read_begin t.f0 o2 _ i st R (by omega) (by omega) ?_
    refine read_rows t.f1 _ (i + 1) t.f0 [] st R (fun x hx => ⟨o3 x hx, hl x hx⟩) (by omega) ?_
    refine read_kids (d - 1) t.f0 _ st t.f2 (fun x hx => read_tree N x (by have := kid_lt hx; omega) (d - 1) (o4 x hx) (hk x hx)) _ (i + 1 + t.f1.length) [] R (by omega) (by omega) ?_
    rw [List.nil_append, List.nil_append]
    refine read_end ⟨t.f0, t.f1.map toL, t.f2.map toT⟩ o2 xs _ st R (by omega) ?_
    rw [← toT_f, show i + 1 + t.f1.length + nLs t.f2 + 1 = i + (2 + t.f1.length + nLs t.f2) by omega]
    exact H
end Go.Proofs.YtdojmdbaiddkgaaGreatDoor.Pure
end
section
namespace Go.Proofs.YtdojmdbaiddkgaaGreatDoor.Print
open Go.RowKit Go.Proofs.YtdojmdbaiddkgaaGreatDoorW.PrintWords Go.Proofs.YtdojmdbaiddkgaaGreatDoorW.PrintLast Go.Proofs.YtdojmdbaiddkgaaGreatDoorW.PrintMore
set_option linter.unusedVariables false
set_option linter.unusedSimpArgs false
mutual
def trystlaw11_Ours.l0 : Nat → Int → Int → ByteArray → List (S49) → List (S31) → ByteArray → List (S53) → Option (ByteArray × (List (S53)) × (List (S25)))
 | 0, _, _, _, _, _, _, _ => none
 | k + 1, x11, x12, x315000, x315001, x315002, x317000, x317001 => if x12 < x11 then (if 0 ≤ x12 then (if x12 < (x315001.length : Int) then ((trystlaw10_Ours.f k ((rd_T49 x315001 x12).f0) ((rd_T49 x315001 x12).f1) ((rd_T49 x315001 x12).f2)).bind fun bt318 => (if x317001.length < 2513169434916 then (trystlaw11_Ours.l0 k x11 (wrap64 (x12 + 1)) x315000 x315001 x315002 x317000 (x317001 ++ [(⟨bt318.1, bt318.2.1, bt318.2.2⟩ : S53)])) else (none))) else (none)) else (none)) else (trystlaw11_Ours.l1 k (x315002.length : Int) 0 x315000 x315001 x315002 x317000 x317001 ([] : List (S25)))
def trystlaw11_Ours.l1 : Nat → Int → Int → ByteArray → List (S49) → List (S31) → ByteArray → List (S53) → List (S25) → Option (ByteArray × (List (S53)) × (List (S25)))
 | 0, _, _, _, _, _, _, _, _ => none
 | k + 1, x29, x30, x315000, x315001, x315002, x317000, x317001, x317002 => if x30 < x29 then (if 0 ≤ x30 then (if x30 < (x315002.length : Int) then ((trystlaw11_Ours.f k ((rd_T31 x315002 x30).f0) ((rd_T31 x315002 x30).f1) ((rd_T31 x315002 x30).f2)).bind fun bt327 => (if x317002.length < 2199023255552 then (trystlaw11_Ours.l1 k x29 (wrap64 (x30 + 1)) x315000 x315001 x315002 x317000 x317001 (x317002 ++ [(⟨bt327.1, bt327.2.1, bt327.2.2⟩ : S25)])) else (none))) else (none)) else (none)) else (some (x317000, x317001, x317002))
def trystlaw11_Ours.f : Nat → ByteArray → List (S49) → List (S31) → Option (ByteArray × (List (S53)) × (List (S25)))
 | 0, _, _, _ => none
 | k + 1, a0_0, l0_1, l0_2 => trystlaw11_Ours.l0 k (l0_1.length : Int) 0 a0_0 l0_1 l0_2 a0_0 ([] : List (S53))
end
def trystlaw11_Ours.T5 : Bool × List (List Nat × List Nat) := (true, [([], []), ([0], [0]), ([], []), ([2], [2]), ([], []), ([3, 4], [3, 4]), ([5], [5]), ([6], [6]), ([7], [7]), ([1, 8, 7], [1, 8]), ([0, 1, 2, 3, 4, 5, 6, 7, 8, 9], []), ([10, 9, 9, 0, 1, 2, 3, 4, 5, 6, 7, 8, 9], [9, 10])])
def trystlaw11_Ours.B5 : List Nat := [0, 1, 0, 4, 0, 28, 60, 124, 252, 511, 1023, 2047]
theorem trystlaw11_Ours.tab5 : rtab .any (opsOf Tryz.f17 5) = trystlaw11_Ours.T5 := by kernel_rfl
theorem trystlaw11_Ours.bits5 : waitsOk trystlaw11_Ours.T5.2 trystlaw11_Ours.B5 = true := by kernel_rfl
def trystlaw11_Ours.T10 : Bool × List (List Nat × List Nat) := (true, [([], []), ([0], [0]), ([], []), ([2], [2]), ([], []), ([3, 4], [3, 4]), ([5], [5]), ([6], [6]), ([7], [7]), ([1, 8, 7], [1, 8]), ([0, 1, 2, 3, 4, 5, 6, 7, 8, 9], []), ([10, 9, 9, 0, 1, 2, 3, 4, 5, 6, 7, 8, 9], [9, 10])])
def trystlaw11_Ours.B10 : List Nat := [0, 1, 0, 4, 0, 28, 60, 124, 252, 511, 1023, 2047]
theorem trystlaw11_Ours.tab10 : rtab .any (opsOf Tryz.f17 10) = trystlaw11_Ours.T10 := by kernel_rfl
theorem trystlaw11_Ours.bits10 : waitsOk trystlaw11_Ours.T10.2 trystlaw11_Ours.B10 = true := by kernel_rfl
set_option maxHeartbeats 8000000 in
set_option maxRecDepth 100000 in
theorem trystlaw11_Ours.calls (k : Nat) : ∀ (a0_0 : ByteArray) (P0_1_ : Nat → Prop) (A0_1 : Option Addr) (c0_1 : Nat) (l0_1 : List (S49)) (P0_2_ : Nat → Prop) (A0_2 : Option Addr) (c0_2 : Nat) (l0_2 : List (S31)) (r1 : ByteArray) (r2 : List (S53)) (r3 : List (S25)) (w : World) (hG : GG w) (hs0_1 : Kd.V k49 49 w w.heap.size (fun k_ => P0_1_ k_) (.slice A0_1 l0_1.length c0_1) l0_1) (hs0_2 : Kd.V k31 31 w w.heap.size (fun k_ => P0_2_ k_) (.slice A0_2 l0_2.length c0_2) l0_2) (h : trystlaw11_Ours.f k a0_0 l0_1 l0_2 = some (r1, r2, r3)),
  Calls Tryz.prog 17 #[.agg #[.string a0_0, .slice A0_1 l0_1.length c0_1, .slice A0_2 l0_2.length c0_2]] w fun e w' => ∃ v1_ v2_ : Value, e = .returned (.agg #[.string r1, v1_, v2_]) ∧ Kd.N k53 53 w' w.heap.size (fun k_ => ((P0_1_ k_ ∨ P0_2_ k_) ∨ w.heap.size ≤ k_) ∧ some k_ ≠ (v2_ : Value).ownBlock) v1_ r2 ∧ Kd.N k25 25 w' w.heap.size (fun k_ => ((P0_1_ k_ ∨ P0_2_ k_) ∨ w.heap.size ≤ k_) ∧ some k_ ≠ (v1_ : Value).ownBlock) v2_ r3 ∧ Below w.heap.size w w' := by
 induction k using Nat.strongRecOn with
 | _ k ih =>
 intro a0_0 P0_1_ A0_1 c0_1 l0_1 P0_2_ A0_2 c0_2 l0_2 r1 r2 r3 w hG hs0_1 hs0_2 h
 cases k with
 | zero => exact absurd h (by simp [trystlaw11_Ours.f])
 | succ k =>
 simp only [trystlaw11_Ours.f] at h; have hu31 := Tryz.underlying31; have hu25 := Tryz.underlying25; have hu49 := Tryz.underlying49; have HO0_1 := Aside0.mk (show Kd.V k49 49 w w.heap.size (fun k_ => ((P0_1_ k_ ∨ P0_2_ k_) ∨ w.heap.size ≤ k_)) (.slice A0_1 l0_1.length c0_1) l0_1 from Kd.V_mono hs0_1 (fun k_ hk => .inl (.inl hk))); have HO0_2 := Aside0.mk (show Kd.V k31 31 w w.heap.size (fun k_ => ((P0_1_ k_ ∨ P0_2_ k_) ∨ w.heap.size ≤ k_)) (.slice A0_2 l0_2.length c0_2) l0_2 from Kd.V_mono hs0_2 (fun k_ hk => .inl (.inr hk))); have HB := Aside0.mk (Below.refl w.heap.size w); have H : (trystlaw11_Ours.l0 k (l0_1.length : Int) 0 a0_0 l0_1 l0_2 a0_0 ([] : List (S53))) = some (r1, r2, r3) := h; clear h; have H' := Aside0.mk H; clear H
 go_enter Tryz.func17, Tryz.ntmps17
 go_wp2_with (first | ((with_reducible refine gate_dst (N := 1) rfl ?_); refine zbox (N := 1) #[.string a0_0, .slice A0_1 l0_1.length c0_1, .slice A0_2 l0_2.length c0_2] 31 (fun gb314 hg w2 hbox hb => ?_); replace HO0_1 := Aside0.mk (Kd.V_below (Kd.V_elderB (Kd.V_below HO0_1.out zX) gb314 (Nat.le_of_eq hg.symm)) hb); replace HO0_2 := Aside0.mk (Kd.V_below (Kd.V_elderB (Kd.V_below HO0_2.out zX) gb314 (Nat.le_of_eq hg.symm)) hb); replace BK314 := Aside0.mk hbox; replace GE314 := zg w hg; replace HB := zw hb; clear hb hbox hg) | ((with_reducible refine gate_dst (N := 2) rfl ?_); refine zbox (N := 2) #[.string (⟨#[]⟩ : ByteArray), .slice none 0 0, .slice none 0 0] 25 (fun gb315 hg w3 hbox hb => ?_); replace HO0_1 := Aside0.mk (Kd.V_below (Kd.V_elderB (Kd.V_below HO0_1.out zX) gb315 (Nat.le_of_eq hg.symm)) hb); replace HO0_2 := Aside0.mk (Kd.V_below (Kd.V_elderB (Kd.V_below HO0_2.out zX) gb315 (Nat.le_of_eq hg.symm)) hb); replace BK315 := Aside0.mk hbox; replace GE315 := zg w hg; replace HB := zw hb; replace NB314_315 := zn BK314 hg; replace NB315_314 := zm BK314 hg; replace BK314 := zb BK314 hb; clear hb hbox hg; have hnb4 := NB314_315.out; have hnc4 := NB315_314.out; obtain ⟨hcz5_0, hcz5_1, hcz5_2, hfz5_0, hfz5_1, hfz5_2⟩ := zk3 BK314) | ((with_reducible refine gate_dst (N := 3) rfl ?_); refine zbox (N := 3) #[.string (⟨#[]⟩ : ByteArray), .slice none 0 0, .slice none 0 0] 25 (fun gb316 hg w6 hbox hb => ?_); replace HO0_1 := Aside0.mk (Kd.V_below (Kd.V_elderB (Kd.V_below HO0_1.out zX) gb316 (Nat.le_of_eq hg.symm)) hb); replace HO0_2 := Aside0.mk (Kd.V_below (Kd.V_elderB (Kd.V_below HO0_2.out zX) gb316 (Nat.le_of_eq hg.symm)) hb); replace BK316 := Aside0.mk hbox; replace GE316 := zg w hg; replace HB := zw hb; replace NB314_316 := zn BK314 hg; replace NB316_314 := zm BK314 hg; replace BK314 := zb BK314 hb; replace NB315_316 := zn BK315 hg; replace NB316_315 := zm BK315 hg; replace BK315 := zb BK315 hb; clear hb hbox hg; have hnb7 := NB316_314.out; have hnc7 := NB314_316.out; have hnb8 := NB316_315.out; have hnc8 := NB315_316.out; obtain ⟨hcz9_0, hcz9_1, hcz9_2, hfz9_0, hfz9_1, hfz9_2⟩ := zk3 BK316; obtain ⟨hcz10_0, hcz10_1, hcz10_2, hfz10_0, hfz10_1, hfz10_2⟩ := zk3 BK314))
 go_loopg [12] k (fun kq v12 w' => ∃ (x12_1 : Int) (x317001_1 : List (S53)) (u317001 : Value), v12 = .int .i64 x12_1 ∧ Aside0 (trystlaw11_Ours.l0 kq (l0_1.length : Int) x12_1 a0_0 l0_1 l0_2 a0_0 x317001_1 = some (r1, r2, r3)) ∧ Aside0 (kq ≤ k) ∧ Aside0 (Kd.V k49 49 w' w.heap.size (fun k_ => ((P0_1_ k_ ∨ P0_2_ k_) ∨ w.heap.size ≤ k_) ∧ some k_ ≠ (u317001 : Value).ownBlock ∧ k_ ≠ gb314 ∧ k_ ≠ gb315 ∧ k_ ≠ gb316) (.slice A0_1 l0_1.length c0_1) l0_1) ∧ Aside0 (Kd.V k31 31 w' w.heap.size (fun k_ => ((P0_1_ k_ ∨ P0_2_ k_) ∨ w.heap.size ≤ k_) ∧ some k_ ≠ (u317001 : Value).ownBlock ∧ k_ ≠ gb314 ∧ k_ ≠ gb315 ∧ k_ ≠ gb316) (.slice A0_2 l0_2.length c0_2) l0_2) ∧ Aside0 (Kd.N k53 53 w' w.heap.size (fun k_ => ((P0_1_ k_ ∨ P0_2_ k_) ∨ w.heap.size ≤ k_) ∧ k_ ≠ gb314 ∧ k_ ≠ gb315 ∧ k_ ≠ gb316) u317001 x317001_1) ∧ Aside0 (w'.heap[gb314]? = some (.cells #[.string a0_0, (.slice A0_1 l0_1.length c0_1), (.slice A0_2 l0_2.length c0_2)] 31 (0, 0))) ∧ Aside0 (w'.heap[gb315]? = some (.cells #[.string (⟨#[]⟩ : ByteArray), (.slice none 0 0), (.slice none 0 0)] 25 (0, 0))) ∧ Aside0 (w'.heap[gb316]? = some (.cells #[.string a0_0, u317001, (.slice none 0 0)] 25 (0, 0))) ∧ Aside0 (Below w.heap.size w w'))
 case atStart => exact ⟨(0), (([] : List (S53))), (.slice none 0 0), zS, H', ⟨Nat.le_refl _⟩, ⟨by (with_reducible repeat (first | apply Kd.V_alloc | apply Kd.V_drewN | apply Kd.V_drew)); exact Kd.V_mono (Kd.V_far (p := ⟨gb316, 2, none⟩) (Kd.V_far (p := ⟨gb316, 1, none⟩) (Kd.V_far (p := ⟨gb316, 0, none⟩) (Kd.V_mono HO0_1.out (fun k_ hk => (⟨hk, hk.2⟩ : _ ∧ k_ ≠ gb316))) (fun _ hk => hk.2) (.string a0_0)) (fun _ hk => hk.2) (.slice none 0 0)) (fun _ hk => hk.2) (.slice none 0 0)) (fun _ hk => ⟨hk.1.1.1.1, ⟨(by simp [Value.ownBlock]), ⟨hk.1.1.1.2, ⟨hk.1.1.2, hk.1.2⟩⟩⟩⟩)⟩, ⟨by (with_reducible repeat (first | apply Kd.V_alloc | apply Kd.V_drewN | apply Kd.V_drew)); exact Kd.V_mono (Kd.V_far (p := ⟨gb316, 2, none⟩) (Kd.V_far (p := ⟨gb316, 1, none⟩) (Kd.V_far (p := ⟨gb316, 0, none⟩) (Kd.V_mono HO0_2.out (fun k_ hk => (⟨hk, hk.2⟩ : _ ∧ k_ ≠ gb316))) (fun _ hk => hk.2) (.string a0_0)) (fun _ hk => hk.2) (.slice none 0 0)) (fun _ hk => hk.2) (.slice none 0 0)) (fun _ hk => ⟨hk.1.1.1.1, ⟨(by simp [Value.ownBlock]), ⟨hk.1.1.1.2, ⟨hk.1.1.2, hk.1.2⟩⟩⟩⟩)⟩, ⟨by first | exact Kd.R_nil _ _ _ _ _ | exact Kd.N_nil _ _ _ _ _ | exact Kd.V_nil _ _ _ _ _ | exact Kd.Q_nil _ _ _ _ _ | exact Kd.S_nil _ _ _ _ _⟩, ⟨by (with_reducible repeat (first | refine blk_drewN ?_ _ | refine blk_drew ?_ | refine blk_alloc ?_ _)); refine blk_far ?_ NB314_316.out _; (with_reducible repeat (first | refine blk_drewN ?_ _ | refine blk_drew ?_ | refine blk_alloc ?_ _)); refine blk_far ?_ NB314_316.out _; (with_reducible repeat (first | refine blk_drewN ?_ _ | refine blk_drew ?_ | refine blk_alloc ?_ _)); refine blk_far ?_ NB314_316.out _; (with_reducible repeat (first | refine blk_drewN ?_ _ | refine blk_drew ?_ | refine blk_alloc ?_ _)); exact BK314.out⟩, ⟨by (with_reducible repeat (first | refine blk_drewN ?_ _ | refine blk_drew ?_ | refine blk_alloc ?_ _)); refine blk_far ?_ NB315_316.out _; (with_reducible repeat (first | refine blk_drewN ?_ _ | refine blk_drew ?_ | refine blk_alloc ?_ _)); refine blk_far ?_ NB315_316.out _; (with_reducible repeat (first | refine blk_drewN ?_ _ | refine blk_drew ?_ | refine blk_alloc ?_ _)); refine blk_far ?_ NB315_316.out _; (with_reducible repeat (first | refine blk_drewN ?_ _ | refine blk_drew ?_ | refine blk_alloc ?_ _)); exact BK315.out⟩, ⟨by (with_reducible repeat (first | refine blk_drewN ?_ _ | refine blk_drew ?_ | refine blk_alloc ?_ _)); refine blk_put (cs := #[.string a0_0, .slice none 0 0, .slice none 0 0]) ?_ 2 _ rfl; (with_reducible repeat (first | refine blk_drewN ?_ _ | refine blk_drew ?_ | refine blk_alloc ?_ _)); refine blk_put (cs := #[.string a0_0, .slice none 0 0, .slice none 0 0]) ?_ 1 _ rfl; (with_reducible repeat (first | refine blk_drewN ?_ _ | refine blk_drew ?_ | refine blk_alloc ?_ _)); refine blk_put (cs := #[.string (⟨#[]⟩ : ByteArray), .slice none 0 0, .slice none 0 0]) ?_ 0 _ rfl; (with_reducible repeat (first | refine blk_drewN ?_ _ | refine blk_drew ?_ | refine blk_alloc ?_ _)); exact BK316.out⟩, ⟨zB⟩⟩
 case round =>
  clear H'; clear hcz10_0 hcz10_1 hcz10_2 hcz5_0 hcz5_1 hcz5_2 hcz9_0 hcz9_1 hcz9_2 hfz10_0 hfz10_1 hfz10_2 hfz5_0 hfz5_1 hfz5_2 hfz9_0 hfz9_1 hfz9_2; obtain ⟨x12_1, x317001_1, u317001, rfl, HA, HK1, HO_315001, HO_315002, HO_317001, BK314, BK315, BK316, HB⟩ := hrel
  cases gk with
  | zero => exact absurd HA.out (by simp [trystlaw11_Ours.l0])
  | succ k1 =>
   have H := HA.out; clear HA; simp only [trystlaw11_Ours.l0] at H; replace H := zId H; rcases H with ⟨-, c11b0, H⟩ | ⟨-, c11b0, H⟩
   ·replace H := zJJ H; obtain ⟨c12b0, c13b0, H⟩ := H; replace H := Option.bind_eq_some_iff.mp H; obtain ⟨⟨t318, t319, t322⟩, A140, H⟩ := H; replace H : (if x317001_1.length < 2513169434916 then (trystlaw11_Ours.l0 k1 (l0_1.length : Int) (wrap64 (x12_1 + 1)) a0_0 l0_1 l0_2 a0_0 (x317001_1 ++ [(⟨t318, t319, t322⟩ : S53)])) else (none)) = some (r1, r2, r3) := H; have A14 := Aside0.mk A140; clear A140; replace H := zJ H; obtain ⟨c15, H⟩ := H; have LMc15 := Aside0.mk c15; clear c15; obtain ⟨y323, hy323⟩ : ∃ y_ : List (S53), y_ = (x317001_1 ++ [(⟨t318, t319, t322⟩ : S53)]) := ⟨_, rfl⟩
    replace H : (trystlaw11_Ours.l0 k1 (l0_1.length : Int) (wrap64 (x12_1 + 1)) a0_0 l0_1 l0_2 a0_0 y323) = some (r1, r2, r3) := by first | (rw [hy323]; with_reducible exact H) | (have H2_ := (Option.bind_some _ _).symm.trans H; rw [hy323]; with_reducible exact H2_) | (have H2_ := (Option.bind_some _ _).symm.trans H; with_reducible exact H2_) | with_reducible exact H | (rw [hy323]; exact H) | exact H
    have Ny323 := Aside0.mk hy323; clear hy323; have H' := Aside0.mk H; clear H
    try go_wp2
    replace HO_315001 := Aside0.mk (Kd.V_drew HO_315001.out); replace HO_315002 := Aside0.mk (Kd.V_drew HO_315002.out); replace HO_317001 := Aside0.mk (Kd.N_drew HO_317001.out); replace BK314 := Aside0.mk (blk_drew BK314.out); replace BK315 := Aside0.mk (blk_drew BK315.out); replace BK316 := Aside0.mk (blk_drew BK316.out); replace HB := Aside0.mk (below_drew1 HB.out); have p317 := zQ (0 ≤ (x12_1 : Int)); have q317 := zQ (x12_1 < (l0_1.length : Int)); obtain ⟨ad317, A317_1, c317_1, e317, hx317_0, hx317_1, hx317_2, hl317_1, hi317_1⟩ := at_T49 (Kd.V_reads' HO_315001.out).2.2 x12_1 p317 q317
    cases e317
    obtain ⟨ce317, hce317, hMe317, hcc317⟩ := Kd.V_get HO_315001.out z49 x12_1 p317 (by first | exact q317 | exact of_decide_eq_true (by first | (with_reducible assumption) | assumption) | (have e_ := (Kd.V_reads' HO_315001.out).1; omega)); obtain ⟨ua317_1, uc317_1, rfl, ul317_1, ge317_1⟩ := k49_openF hMe317; have hv317_1 := hcc317 1 _ rfl; rw [add_field _ _ 1 (by omega)] at hv317_1; replace hv317_1 := Option.some.inj (hv317_1.symm.trans hx317_1)
    injection hv317_1 with hva_ hvn_ hvc_
    rw [hva_] at ge317_1; rw [hvc_] at ul317_1; have HL317_1 := Aside0.mk (show Kd.V k77 77 _ w.heap.size _ _ ((rd_T49 l0_1 x12_1).f1) from Kd.V_mk ul317_1 ge317_1); clear hva_ hvn_ hvc_ ge317_1 ul317_1; clear hcc317 hce317; have HR317_1 := Aside0.mk hi317_1; have HC317_1 := Aside0.mk hl317_1; clear hi317_1 hl317_1; replace p317 := eq_true p317; replace q317 := eq_true q317
    refine start_ (n := 12) (S := fun w' => w'.cell? ⟨gb316, 0, none⟩ = some (.string a0_0) ∧ w'.cell? ⟨gb316, 1, none⟩ = some (u317001) ∧ w'.cell? ⟨gb316, 2, none⟩ = some (.slice none 0 0) ∧ w'.cell? ⟨gb314, 0, none⟩ = some (.string a0_0) ∧ w'.cell? ⟨gb314, 1, none⟩ = some (.slice (some ad317) l0_1.length c0_1) ∧ w'.cell? ⟨gb314, 2, none⟩ = some (.slice A0_2 l0_2.length c0_2) ∧ w'.cell? (ad317.add ((x12_1).toNat * 3)) = some (.string ((rd_T49 l0_1 x12_1).f0)) ∧ w'.cell? ⟨(ad317.add ((x12_1).toNat * 3)).block, (ad317.add ((x12_1).toNat * 3)).off + 1, none⟩ = some (.slice A317_1 ((rd_T49 l0_1 x12_1).f1).length c317_1) ∧ w'.cell? ⟨(ad317.add ((x12_1).toNat * 3)).block, (ad317.add ((x12_1).toNat * 3)).off + 2, none⟩ = some (.string ((rd_T49 l0_1 x12_1).f2))) (ds := [9, 11]) (bs 12 0) (by kernel_rfl) rfl rfl ⟨(blk_cell BK316.out 0).trans rfl, (blk_cell BK316.out 1).trans rfl, (blk_cell BK316.out 2).trans rfl, (blk_cell BK314.out 0).trans rfl, (blk_cell BK314.out 1).trans rfl, (blk_cell BK314.out 2).trans rfl, hx317_0, hx317_1, hx317_2⟩ (fun hHeld => ?_); refine with_tabW trystlaw11_Ours.tab5 trystlaw11_Ours.bits5 (fun HT_ HW_ => ?_)
    generalize wr.drew = w16 at HO_315001 HO_315002 HO_317001 BK314 BK315 BK316 HB HL317_1 HR317_1 hx317_0 hx317_1 hx317_2 hHeld ⊢; refine zp 0 15 (bs 12 1) ?_; refine zp 2 17 (bs 12 5) ?_; refine zp 4 19 (bs 12 21) ?_; refine zt 1 16 (bs 12 23) ?_; refine zt 3 18 (bs 12 31) ?_; refine zp 5 20 (bs 12 63) ?_; refine zt 6 21 (bs 12 127) ?_; refine one_ (i := 7) (N := some 22) (bs 12 255) rfl rfl (one_of HT_.out (by kernel_rfl)) (by decide) (fun K hK => ?_); refine goes_ Tryz.func31 (by kernel_rfl) rfl #[.agg #[.string ((rd_T49 l0_1 x12_1).f0), .slice A317_1 ((rd_T49 l0_1 x12_1).f1).length c317_1, .string ((rd_T49 l0_1 x12_1).f2)]] (by rfl) rfl rfl zA ?_
    with_reducible refine (trystlaw10_Ours.calls k1 ((rd_T49 l0_1 x12_1).f0) (fun k_ => (((P0_1_ k_ ∨ P0_2_ k_) ∨ w.heap.size ≤ k_) ∧ (some k_ ≠ (u317001 : Value).ownBlock ∧ (k_ ≠ gb314 ∧ (k_ ≠ gb315 ∧ k_ ≠ gb316))))) _ _ ((rd_T49 l0_1 x12_1).f1) ((rd_T49 l0_1 x12_1).f2) t318 t319 t322 _ zG ?side1 A14.out).mono ?_
    (case side1 => exact HL317_1.out)
    rintro e w17 ⟨v320, rfl, ho0, hb⟩; have HS6_ := (hb.cell (World.block_lt_of_cell? _ _ (hHeld.2.2.2.2.2.2.1))).trans (hHeld.2.2.2.2.2.2.1); have HS7_ := (hb.cell (World.block_lt_of_cell? _ _ (hHeld.2.2.2.2.2.2.2.1))).trans (hHeld.2.2.2.2.2.2.2.1); have HS8_ := (hb.cell (World.block_lt_of_cell? _ _ (hHeld.2.2.2.2.2.2.2.2))).trans (hHeld.2.2.2.2.2.2.2.2); refine ⟨_, rfl, ?_⟩; have n0_ := Aside0.mk (Kd.V_elder' (Kd.V_below HO_315001.out zX) (Kd.N_base ho0) hb); have n1_ := Aside0.mk (Kd.V_elder' (Kd.V_below HO_315002.out zX) (Kd.N_base ho0) hb); have n2_ := Aside0.mk (Kd.N_elder' (Kd.N_below HO_317001.out zX) (Kd.N_base ho0) hb); have n3_ := Aside0.mk (Kd.V_elder' (Kd.V_below HL317_1.out zX) (Kd.N_base ho0) hb)
    have n4_ := Aside0.mk (Kd.N_lower (Kd.N_mono (ok' := fun k_ => ((P0_1_ k_ ∨ P0_2_ k_) ∨ w.heap.size ≤ k_) ∧ some k_ ≠ (u317001 : Value).ownBlock ∧ k_ ≠ gb314 ∧ k_ ≠ gb315 ∧ k_ ≠ gb316) ho0 (fun k_ hk_ => ⟨Or.elim hk_ (fun hs_ => hs_.1) (fun hn_ => (.inr (Nat.le_trans (below_size zB) hn_))), Or.elim hk_ (fun hs_ => hs_.2.1) (fun hn_ => (Kd.fresh' (Kd.N_lt (Kd.N_below HO_317001.out zX)) k_ hn_)), Or.elim hk_ (fun hs_ => hs_.2.2.1) (fun hn_ => (Kd.freshB (g := gb314) (o := .cells #[.string a0_0, .slice (some ad317) l0_1.length c0_1, .slice A0_2 l0_2.length c0_2] 31 (0, 0)) (blk_below BK314.out zX) k_ hn_)), Or.elim hk_ (fun hs_ => hs_.2.2.2.1) (fun hn_ => (Kd.freshB (g := gb315) (o := .cells #[.string (⟨#[]⟩ : ByteArray), .slice none 0 0, .slice none 0 0] 25 (0, 0)) (blk_below BK315.out zX) k_ hn_)), Or.elim hk_ (fun hs_ => hs_.2.2.2.2) (fun hn_ => (Kd.freshB (g := gb316) (o := .cells #[.string a0_0, u317001, .slice none 0 0] 25 (0, 0)) (blk_below BK316.out zX) k_ hn_))⟩)) (below_size zB))
    have n5_ := zb BK314 hb; have n6_ := zb BK315 hb; have n7_ := zb BK316 hb; have n8_ := Aside0.mk (Kd.C_below (by repeat (first | (with_reducible exact HR317_1.out) | (with_reducible refine Kd.C_alloc ?_ _) | (with_reducible refine Kd.C_drewN ?_ _) | (with_reducible refine Kd.C_drew ?_) | exact HR317_1.out)) hb); have n9_ := zw hb; clear HO_315001; clear HO_315002; clear HO_317001; clear HL317_1; clear BK314; clear BK315; clear BK316; clear HR317_1; clear HB; have HO_315001 := n0_; have HO_315002 := n1_; have HO_317001 := n2_; have HL317_1 := n3_; have HO321 := n4_; have BK314 := n5_; have BK315 := n6_; have BK316 := n7_; have HR317_1 := n8_; have HB := n9_; clear n0_ n1_ n2_ n3_ n4_ n5_ n6_ n7_ n8_ n9_; (try clear hb); (try clear hb2)
    (try clear hk); (try clear hi); (try clear ho0); obtain ⟨Ao19, co19, eo19⟩ := Kd.N_slice HO321.out
    (first | subst eo19 | (injection eo19 with f1_ f2_ f3_; have f4_ := f1_.symm; have f5_ := f3_.symm; clear f1_ f2_ f3_; subst f4_; subst f5_))
    refine hK.out _ _ ⟨(blk_cell BK316.out 0).trans rfl, (blk_cell BK316.out 1).trans rfl, (blk_cell BK316.out 2).trans rfl, (blk_cell BK314.out 0).trans rfl, (blk_cell BK314.out 1).trans rfl, (blk_cell BK314.out 2).trans rfl, HS6_, HS7_, HS8_⟩ (fun hHeld => ?_); clear hK K; refine zr ?_; refine one_ (i := 8) (N := some 23) (bs 12 511) rfl rfl (one_of HT_.out (by kernel_rfl)) (by decide) (fun K hK => ?_); refine value_ (w1 := ?_) (v := ?_) (by rfl) rfl ?_ ?_; rotate_left 2
    ·go_simp
     constructor
     ·rfl
     ·rfl
    refine hK.out _ _ ⟨(blk_cell (blk_alloc BK316.out _) 0).trans rfl, (blk_cell (blk_alloc BK316.out _) 1).trans rfl, (blk_cell (blk_alloc BK316.out _) 2).trans rfl, (blk_cell (blk_alloc BK314.out _) 0).trans rfl, (blk_cell (blk_alloc BK314.out _) 1).trans rfl, (blk_cell (blk_alloc BK314.out _) 2).trans rfl, (World.cell?_alloc_lt _ _ _ (World.block_lt_of_cell? _ _ (hHeld.2.2.2.2.2.2.1))).trans (hHeld.2.2.2.2.2.2.1), (World.cell?_alloc_lt _ _ _ (World.block_lt_of_cell? _ _ (hHeld.2.2.2.2.2.2.2.1))).trans (hHeld.2.2.2.2.2.2.2.1), (World.cell?_alloc_lt _ _ _ (World.block_lt_of_cell? _ _ (hHeld.2.2.2.2.2.2.2.2))).trans (hHeld.2.2.2.2.2.2.2.2)⟩ (fun hHeld => ?_); clear hK K; refine zr ?_; refine last_ (i := 9) (N := some 24) (bs 12 1023) rfl rfl (one_of HT_.out (by kernel_rfl)) (by decide) (fun K hK => ?_)
    refine Kd.N_append_step k53 (w0 := w) w.heap.size (by rfl) (.tmp 16) (.tmp 23) 22 53 (.agg #[(.string ⟨#[]⟩), (.slice none 0 0), (.string ⟨#[]⟩)]) 56 rfl Tryz.underlying22 info53 rfl (by decide) (by omega) u317001 x317001_1 (⟨t318, t319, t322⟩ : S53) [.string t318, .slice Ao19 t319.length co19, .string t322] (fun k_ => ((P0_1_ k_ ∨ P0_2_ k_) ∨ w.heap.size ≤ k_) ∧ k_ ≠ gb314 ∧ k_ ≠ gb315 ∧ k_ ≠ gb316) (fun k_ => ((fun k_ => ((P0_1_ k_ ∨ P0_2_ k_) ∨ w.heap.size ≤ k_) ∧ k_ ≠ gb314 ∧ k_ ≠ gb315 ∧ k_ ≠ gb316)) k_ ∧ some k_ ≠ (u317001 : Value).ownBlock) rfl rfl ?aP (fun _ hk => hk) ?aF ?aO ?aB ?aS ?aL ?_
    (case aP => exact (k53_mkF _ _ (⟨t318, t319, t322⟩ : S53) (Kd.N_reads' (Kd.N_mono (ok' := (fun k_ => ((fun k_ => ((P0_1_ k_ ∨ P0_2_ k_) ∨ w.heap.size ≤ k_) ∧ k_ ≠ gb314 ∧ k_ ≠ gb315 ∧ k_ ≠ gb316)) k_ ∧ some k_ ≠ (u317001 : Value).ownBlock)) (HO321.out) (fun k_ hk => ⟨⟨hk.1, ⟨hk.2.2.1, ⟨hk.2.2.2.1, hk.2.2.2.2⟩⟩⟩, hk.2.1⟩))).2.1 (Kd.N_F (Kd.N_mono (ok' := (fun k_ => ((fun k_ => ((P0_1_ k_ ∨ P0_2_ k_) ∨ w.heap.size ≤ k_) ∧ k_ ≠ gb314 ∧ k_ ≠ gb315 ∧ k_ ≠ gb316)) k_ ∧ some k_ ≠ (u317001 : Value).ownBlock)) (HO321.out) (fun k_ hk => ⟨⟨hk.1, ⟨hk.2.2.1, ⟨hk.2.2.2.1, hk.2.2.2.2⟩⟩⟩, hk.2.1⟩)))))
    (case aB => exact zB)
    (case aF => exact (fun k_ hk => ⟨(.inr (Nat.le_trans (below_size zB) hk)), Kd.freshB (g := gb314) (o := .cells #[.string a0_0, .slice (some ad317) l0_1.length c0_1, .slice A0_2 l0_2.length c0_2] 31 (0, 0)) (blk_below BK314.out zX) k_ hk, Kd.freshB (g := gb315) (o := .cells #[.string (⟨#[]⟩ : ByteArray), .slice none 0 0, .slice none 0 0] 25 (0, 0)) (blk_below BK315.out zX) k_ hk, Kd.freshB (g := gb316) (o := .cells #[.string a0_0, u317001, .slice none 0 0] 25 (0, 0)) (blk_below BK316.out zX) k_ hk⟩))
    (case aO => exact (by (with_reducible repeat (first | apply Kd.N_alloc | apply Kd.N_drewN | apply Kd.N_drew)); exact Kd.N_mono HO_317001.out (fun _ hk => ⟨hk.1.1, ⟨hk.1.2.1, ⟨hk.1.2.2.1, hk.1.2.2.2⟩⟩⟩)))
    (case aS => exact (below_size zB))
    (case aL => have := LMc15.out; omega)
    intro v324 w18 ho hb hg hat; rw [← Ny323.out] at ho; have n0_ := Aside0.mk (Kd.V_afterv (ok := (fun k_ => ((P0_1_ k_ ∨ P0_2_ k_) ∨ w.heap.size ≤ k_) ∧ some k_ ≠ (.slice Ao19 t319.length co19 : Value).ownBlock ∧ k_ ≠ gb314 ∧ k_ ≠ gb315 ∧ k_ ≠ gb316)) (by (with_reducible repeat (first | apply Kd.V_alloc | apply Kd.V_drewN | apply Kd.V_drew)); exact Kd.V_mono HO_315001.out (fun _ hk => ⟨⟨hk.1.1, ⟨hk.2, ⟨hk.1.2.2.1, ⟨hk.1.2.2.2.1, hk.1.2.2.2.2⟩⟩⟩⟩, hk.1.2.1⟩)) hg hat); have n1_ := Aside0.mk (Kd.V_afterv (ok := (fun k_ => ((P0_1_ k_ ∨ P0_2_ k_) ∨ w.heap.size ≤ k_) ∧ some k_ ≠ (.slice Ao19 t319.length co19 : Value).ownBlock ∧ k_ ≠ gb314 ∧ k_ ≠ gb315 ∧ k_ ≠ gb316)) (by (with_reducible repeat (first | apply Kd.V_alloc | apply Kd.V_drewN | apply Kd.V_drew)); exact Kd.V_mono HO_315002.out (fun _ hk => ⟨⟨hk.1.1, ⟨hk.2, ⟨hk.1.2.2.1, ⟨hk.1.2.2.2.1, hk.1.2.2.2.2⟩⟩⟩⟩, hk.1.2.1⟩)) hg hat)
    have n2_ := Aside0.mk (blk_grown (g := gb314) (o := .cells #[.string a0_0, .slice (some ad317) l0_1.length c0_1, .slice A0_2 l0_2.length c0_2] 31 (0, 0)) (blk_below BK314.out zX) hg (Kd.N_ne HO_317001.out BK314.out (by decide))); have n3_ := Aside0.mk (blk_grown (g := gb315) (o := .cells #[.string (⟨#[]⟩ : ByteArray), .slice none 0 0, .slice none 0 0] 25 (0, 0)) (blk_below BK315.out zX) hg (Kd.N_ne HO_317001.out BK315.out (by decide))); have n4_ := Aside0.mk (blk_grown (g := gb316) (o := .cells #[.string a0_0, u317001, .slice none 0 0] 25 (0, 0)) (blk_below BK316.out zX) hg (Kd.N_ne HO_317001.out BK316.out (by decide)))
    have n5_ := Aside0.mk (Kd.V_afterv (ok := (fun k_ => ((P0_1_ k_ ∨ P0_2_ k_) ∨ w.heap.size ≤ k_) ∧ some k_ ≠ (.slice Ao19 t319.length co19 : Value).ownBlock ∧ k_ ≠ gb314 ∧ k_ ≠ gb315 ∧ k_ ≠ gb316)) (by (with_reducible repeat (first | apply Kd.V_alloc | apply Kd.V_drewN | apply Kd.V_drew)); exact Kd.V_mono HL317_1.out (fun _ hk => ⟨⟨hk.1.1, ⟨hk.2, ⟨hk.1.2.2.1, ⟨hk.1.2.2.2.1, hk.1.2.2.2.2⟩⟩⟩⟩, hk.1.2.1⟩)) hg hat); have n6_ := Aside0.mk (hb); have n7_ := Aside0.mk (ho); clear HO_315001; clear HO_315002; clear BK314; clear BK315; clear BK316; clear HL317_1; clear HB; clear HO_317001; clear HO321; have HO_315001 := n0_; have HO_315002 := n1_; have BK314 := n2_; have BK315 := n3_; have BK316 := n4_; have HL317_1 := n5_; have HB := n6_; have HO325 := n7_; clear n0_ n1_ n2_ n3_ n4_ n5_ n6_ n7_; clear ho hb hg hat; obtain ⟨Ao20, co20, eo20⟩ := Kd.N_slice HO325.out
    (first | subst eo20 | (injection eo20 with f1_ f2_ f3_; have f4_ := f1_.symm; have f5_ := f3_.symm; clear f1_ f2_ f3_; subst f4_; subst f5_))
    refine hK.out _ _ ?_; clear hK K; refine zr ?_; refine zp 10 25 (bs 12 2047) ?_; refine last_ (i := 11) (N := none) (bs 12 4095) rfl rfl (one_of HT_.out (by kernel_rfl)) (by decide) (fun K hK => ?_); have hs21 : w18.cell? ⟨gb316, 1, none⟩ = some (u317001) := (blk_cell BK316.out 1).trans rfl; have hfs21 := zf BK316 1; have hns21_0 := NB314_316.out; have hns21_1 := NB315_316.out; have hms21_0 := NB316_314.out; have hms21_1 := NB316_315.out; refine skip_ (w1 := ?_) (by rfl) rfl ?_ ?_; rotate_left
    ·go_simp; rfl
    refine hK.out _ _ ?_; clear hK K; refine done_ (done_of HT_.out (by kernel_rfl)) ?_
    try go_wp2
    go_roundg k1
    case measure => have := HK1.out; omega
    case rel => exact ⟨(wrap64 (x12_1 + 1)), (y323), (.slice Ao20 y323.length co20), zS, H', ⟨by have := HK1.out; omega⟩, ⟨by (with_reducible repeat (first | apply Kd.V_alloc | apply Kd.V_drewN | apply Kd.V_drew)); exact Kd.V_mono (Kd.V_far (p := ⟨gb316, 1, none⟩) (Kd.V_mono HO_315001.out (fun k_ hk => (⟨hk, hk.1.2.2.2.2⟩ : _ ∧ k_ ≠ gb316))) (fun _ hk => hk.2) (.slice Ao20 y323.length co20)) (fun _ hk => ⟨hk.1.1.1, ⟨hk.1.2, ⟨hk.1.1.2.2.1, ⟨hk.1.1.2.2.2.1, hk.1.1.2.2.2.2⟩⟩⟩⟩)⟩, ⟨by (with_reducible repeat (first | apply Kd.V_alloc | apply Kd.V_drewN | apply Kd.V_drew)); exact Kd.V_mono (Kd.V_far (p := ⟨gb316, 1, none⟩) (Kd.V_mono HO_315002.out (fun k_ hk => (⟨hk, hk.1.2.2.2.2⟩ : _ ∧ k_ ≠ gb316))) (fun _ hk => hk.2) (.slice Ao20 y323.length co20)) (fun _ hk => ⟨hk.1.1.1, ⟨hk.1.2, ⟨hk.1.1.2.2.1, ⟨hk.1.1.2.2.2.1, hk.1.1.2.2.2.2⟩⟩⟩⟩)⟩, ⟨by (with_reducible repeat (first | apply Kd.N_alloc | apply Kd.N_drewN | apply Kd.N_drew)); exact Kd.N_mono (Kd.N_far (p := ⟨gb316, 1, none⟩) (Kd.N_mono HO325.out (fun k_ hk => (⟨hk, hk.2.2.2⟩ : _ ∧ k_ ≠ gb316))) (fun _ hk => hk.2) (.slice Ao20 y323.length co20)) (fun _ hk => ⟨hk.1.1, ⟨hk.1.2.1, ⟨hk.1.2.2.1, hk.1.2.2.2⟩⟩⟩)⟩, ⟨by (with_reducible repeat (first | refine blk_drewN ?_ _ | refine blk_drew ?_ | refine blk_alloc ?_ _)); refine blk_far ?_ NB314_316.out _; (with_reducible repeat (first | refine blk_drewN ?_ _ | refine blk_drew ?_ | refine blk_alloc ?_ _)); exact BK314.out⟩, ⟨by (with_reducible repeat (first | refine blk_drewN ?_ _ | refine blk_drew ?_ | refine blk_alloc ?_ _)); refine blk_far ?_ NB315_316.out _; (with_reducible repeat (first | refine blk_drewN ?_ _ | refine blk_drew ?_ | refine blk_alloc ?_ _)); exact BK315.out⟩, ⟨by (with_reducible repeat (first | refine blk_drewN ?_ _ | refine blk_drew ?_ | refine blk_alloc ?_ _)); refine blk_put (cs := #[.string a0_0, u317001, .slice none 0 0]) ?_ 1 _ rfl; (with_reducible repeat (first | refine blk_drewN ?_ _ | refine blk_drew ?_ | refine blk_alloc ?_ _)); exact BK316.out⟩, ⟨zB⟩⟩
   ·have H' := Aside0.mk H; clear H; have hnb22 := NB314_315.out; have hnc22 := NB315_314.out; have hnb23 := NB314_316.out; have hnc23 := NB316_314.out; obtain ⟨hcz24_0, hcz24_1, hcz24_2, hfz24_0, hfz24_1, hfz24_2⟩ := zk3 BK314; go_wp2
    go_loopg [30] k1 (fun kq v30 w' => ∃ (x30_2 : Int) (x317002_2 : List (S25)) (u317002 : Value), v30 = .int .i64 x30_2 ∧ Aside0 (trystlaw11_Ours.l1 kq (l0_2.length : Int) x30_2 a0_0 l0_1 l0_2 a0_0 x317001_1 x317002_2 = some (r1, r2, r3)) ∧ Aside0 (kq ≤ k1) ∧ Aside0 (Kd.V k49 49 w' w.heap.size (fun k_ => ((P0_1_ k_ ∨ P0_2_ k_) ∨ w.heap.size ≤ k_) ∧ some k_ ≠ (u317001 : Value).ownBlock ∧ some k_ ≠ (u317002 : Value).ownBlock ∧ k_ ≠ gb314 ∧ k_ ≠ gb315 ∧ k_ ≠ gb316) (.slice A0_1 l0_1.length c0_1) l0_1) ∧ Aside0 (Kd.V k31 31 w' w.heap.size (fun k_ => ((P0_1_ k_ ∨ P0_2_ k_) ∨ w.heap.size ≤ k_) ∧ some k_ ≠ (u317001 : Value).ownBlock ∧ some k_ ≠ (u317002 : Value).ownBlock ∧ k_ ≠ gb314 ∧ k_ ≠ gb315 ∧ k_ ≠ gb316) (.slice A0_2 l0_2.length c0_2) l0_2) ∧ Aside0 (Kd.N k53 53 w' w.heap.size (fun k_ => ((P0_1_ k_ ∨ P0_2_ k_) ∨ w.heap.size ≤ k_) ∧ some k_ ≠ (u317002 : Value).ownBlock ∧ k_ ≠ gb314 ∧ k_ ≠ gb315 ∧ k_ ≠ gb316) u317001 x317001_1) ∧ Aside0 (Kd.N k25 25 w' w.heap.size (fun k_ => ((P0_1_ k_ ∨ P0_2_ k_) ∨ w.heap.size ≤ k_) ∧ some k_ ≠ (u317001 : Value).ownBlock ∧ k_ ≠ gb314 ∧ k_ ≠ gb315 ∧ k_ ≠ gb316) u317002 x317002_2) ∧ Aside0 (w'.heap[gb314]? = some (.cells #[.string a0_0, (.slice A0_1 l0_1.length c0_1), (.slice A0_2 l0_2.length c0_2)] 31 (0, 0))) ∧ Aside0 (w'.heap[gb315]? = some (.cells #[.string (⟨#[]⟩ : ByteArray), (.slice none 0 0), (.slice none 0 0)] 25 (0, 0))) ∧ Aside0 (w'.heap[gb316]? = some (.cells #[.string a0_0, u317001, u317002] 25 (0, 0))) ∧ Aside0 (Below w.heap.size w w'))
    case atStart => exact ⟨(0), (([] : List (S25))), (.slice none 0 0), zS, H', ⟨Nat.le_refl _⟩, ⟨by (with_reducible repeat (first | apply Kd.V_alloc | apply Kd.V_drewN | apply Kd.V_drew)); exact Kd.V_mono HO_315001.out (fun _ hk => ⟨hk.1, ⟨hk.2.1, ⟨(by simp [Value.ownBlock]), ⟨hk.2.2.1, ⟨hk.2.2.2.1, hk.2.2.2.2⟩⟩⟩⟩⟩)⟩, ⟨by (with_reducible repeat (first | apply Kd.V_alloc | apply Kd.V_drewN | apply Kd.V_drew)); exact Kd.V_mono HO_315002.out (fun _ hk => ⟨hk.1, ⟨hk.2.1, ⟨(by simp [Value.ownBlock]), ⟨hk.2.2.1, ⟨hk.2.2.2.1, hk.2.2.2.2⟩⟩⟩⟩⟩)⟩, ⟨by (with_reducible repeat (first | apply Kd.N_alloc | apply Kd.N_drewN | apply Kd.N_drew)); exact Kd.N_mono HO_317001.out (fun _ hk => ⟨hk.1, ⟨(by simp [Value.ownBlock]), ⟨hk.2.1, ⟨hk.2.2.1, hk.2.2.2⟩⟩⟩⟩)⟩, ⟨by first | exact Kd.R_nil _ _ _ _ _ | exact Kd.N_nil _ _ _ _ _ | exact Kd.V_nil _ _ _ _ _ | exact Kd.Q_nil _ _ _ _ _ | exact Kd.S_nil _ _ _ _ _⟩, ⟨blk_below BK314.out zX⟩, ⟨blk_below BK315.out zX⟩, ⟨blk_below BK316.out zX⟩, ⟨zB⟩⟩
    case round =>
     clear H'; clear c11b0 hcz24_0 hcz24_1 hcz24_2 hfz24_0 hfz24_1 hfz24_2; obtain ⟨x30_2, x317002_2, u317002, rfl, HA, HK2, HO_315001, HO_315002, HO_317001, HO_317002, BK314, BK315, BK316, HB⟩ := hrel
     cases gk with
     | zero => exact absurd HA.out (by simp [trystlaw11_Ours.l1])
     | succ k2 =>
      have H := HA.out; clear HA; simp only [trystlaw11_Ours.l1] at H; replace H := zId H; rcases H with ⟨-, c25b0, H⟩ | ⟨-, c25b0, H⟩
      ·replace H := zJJ H; obtain ⟨c26b0, c27b0, H⟩ := H; replace H := Option.bind_eq_some_iff.mp H; obtain ⟨⟨t327, t328, t331⟩, A280, H⟩ := H; replace H : (if x317002_2.length < 2199023255552 then (trystlaw11_Ours.l1 k2 (l0_2.length : Int) (wrap64 (x30_2 + 1)) a0_0 l0_1 l0_2 a0_0 x317001_1 (x317002_2 ++ [(⟨t327, t328, t331⟩ : S25)])) else (none)) = some (r1, r2, r3) := H; have A28 := Aside0.mk A280; clear A280; replace H := zJ H; obtain ⟨c29, H⟩ := H; have LMc29 := Aside0.mk c29; clear c29; obtain ⟨y334, hy334⟩ : ∃ y_ : List (S25), y_ = (x317002_2 ++ [(⟨t327, t328, t331⟩ : S25)]) := ⟨_, rfl⟩
       replace H : (trystlaw11_Ours.l1 k2 (l0_2.length : Int) (wrap64 (x30_2 + 1)) a0_0 l0_1 l0_2 a0_0 x317001_1 y334) = some (r1, r2, r3) := by first | (rw [hy334]; with_reducible exact H) | (have H2_ := (Option.bind_some _ _).symm.trans H; rw [hy334]; with_reducible exact H2_) | (have H2_ := (Option.bind_some _ _).symm.trans H; with_reducible exact H2_) | with_reducible exact H | (rw [hy334]; exact H) | exact H
       have Ny334 := Aside0.mk hy334; clear hy334; have H' := Aside0.mk H; clear H
       try go_wp2
       replace HO_315001 := Aside0.mk (Kd.V_drew HO_315001.out); replace HO_315002 := Aside0.mk (Kd.V_drew HO_315002.out); replace HO_317001 := Aside0.mk (Kd.N_drew HO_317001.out); replace HO_317002 := Aside0.mk (Kd.N_drew HO_317002.out); replace BK314 := Aside0.mk (blk_drew BK314.out); replace BK315 := Aside0.mk (blk_drew BK315.out); replace BK316 := Aside0.mk (blk_drew BK316.out); replace HB := Aside0.mk (below_drew1 HB.out); have p326 := zQ (0 ≤ (x30_2 : Int)); have q326 := zQ (x30_2 < (l0_2.length : Int))
       obtain ⟨ad326, A326_1, c326_1, A326_2, c326_2, e326, hx326_0, hx326_1, hx326_2, hl326_1, hi326_1, hl326_2, hi326_2⟩ := at_T31 (Kd.V_reads' HO_315002.out).2.2 x30_2 p326 q326
       cases e326
       obtain ⟨ce326, hce326, hMe326, hcc326⟩ := Kd.V_get HO_315002.out z31 x30_2 p326 (by first | exact q326 | exact of_decide_eq_true (by first | (with_reducible assumption) | assumption) | (have e_ := (Kd.V_reads' HO_315002.out).1; omega)); obtain ⟨ua326_1, uc326_1, ua326_2, uc326_2, rfl, ul326_1, ge326_1, ul326_2, ge326_2⟩ := k31_openF hMe326; have hv326_1 := hcc326 1 _ rfl; rw [add_field _ _ 1 (by omega)] at hv326_1; replace hv326_1 := Option.some.inj (hv326_1.symm.trans hx326_1)
       injection hv326_1 with hva_ hvn_ hvc_
       rw [hva_] at ge326_1; rw [hvc_] at ul326_1; have HL326_1 := Aside0.mk (show Kd.V k49 49 _ w.heap.size _ _ ((rd_T31 l0_2 x30_2).f1) from Kd.V_mk ul326_1 ge326_1); clear hva_ hvn_ hvc_ ge326_1 ul326_1; have hv326_2 := hcc326 2 _ rfl; rw [add_field _ _ 2 (by omega)] at hv326_2; replace hv326_2 := Option.some.inj (hv326_2.symm.trans hx326_2)
       injection hv326_2 with hva_ hvn_ hvc_
       rw [hva_] at ge326_2; rw [hvc_] at ul326_2; have HL326_2 := Aside0.mk (show Kd.V k31 31 _ w.heap.size _ _ ((rd_T31 l0_2 x30_2).f2) from Kd.V_mk ul326_2 ge326_2); clear hva_ hvn_ hvc_ ge326_2 ul326_2; clear hcc326 hce326; have HR326_1 := Aside0.mk hi326_1; have HC326_1 := Aside0.mk hl326_1; clear hi326_1 hl326_1; have HR326_2 := Aside0.mk hi326_2; have HC326_2 := Aside0.mk hl326_2; clear hi326_2 hl326_2; replace p326 := eq_true p326; replace q326 := eq_true q326
       refine start_ (n := 12) (S := fun w' => w'.cell? ⟨gb316, 0, none⟩ = some (.string a0_0) ∧ w'.cell? ⟨gb316, 1, none⟩ = some (u317001) ∧ w'.cell? ⟨gb316, 2, none⟩ = some (u317002) ∧ w'.cell? ⟨gb314, 0, none⟩ = some (.string a0_0) ∧ w'.cell? ⟨gb314, 1, none⟩ = some (.slice A0_1 l0_1.length c0_1) ∧ w'.cell? ⟨gb314, 2, none⟩ = some (.slice (some ad326) l0_2.length c0_2) ∧ w'.cell? (ad326.add ((x30_2).toNat * 3)) = some (.string ((rd_T31 l0_2 x30_2).f0)) ∧ w'.cell? ⟨(ad326.add ((x30_2).toNat * 3)).block, (ad326.add ((x30_2).toNat * 3)).off + 1, none⟩ = some (.slice A326_1 ((rd_T31 l0_2 x30_2).f1).length c326_1) ∧ w'.cell? ⟨(ad326.add ((x30_2).toNat * 3)).block, (ad326.add ((x30_2).toNat * 3)).off + 2, none⟩ = some (.slice A326_2 ((rd_T31 l0_2 x30_2).f2).length c326_2)) (ds := [9, 11]) (bs 12 0) (by kernel_rfl) rfl rfl ⟨(blk_cell BK316.out 0).trans rfl, (blk_cell BK316.out 1).trans rfl, (blk_cell BK316.out 2).trans rfl, (blk_cell BK314.out 0).trans rfl, (blk_cell BK314.out 1).trans rfl, (blk_cell BK314.out 2).trans rfl, hx326_0, hx326_1, hx326_2⟩ (fun hHeld => ?_); refine with_tabW trystlaw11_Ours.tab10 trystlaw11_Ours.bits10 (fun HT_ HW_ => ?_)
       generalize wr.drew = w30 at HO_315001 HO_315002 HO_317001 HO_317002 BK314 BK315 BK316 HB HL326_1 HL326_2 HR326_1 HR326_2 hx326_0 hx326_1 hx326_2 hHeld ⊢; refine zp 0 33 (bs 12 1) ?_; refine zp 2 35 (bs 12 5) ?_; refine zp 4 37 (bs 12 21) ?_; refine zt 1 34 (bs 12 23) ?_; refine zt 3 36 (bs 12 31) ?_; refine zp 5 38 (bs 12 63) ?_; refine zt 6 39 (bs 12 127) ?_; refine one_ (i := 7) (N := some 40) (bs 12 255) rfl rfl (one_of HT_.out (by kernel_rfl)) (by decide) (fun K hK => ?_); refine goes_ Tryz.func17 (by kernel_rfl) rfl #[.agg #[.string ((rd_T31 l0_2 x30_2).f0), .slice A326_1 ((rd_T31 l0_2 x30_2).f1).length c326_1, .slice A326_2 ((rd_T31 l0_2 x30_2).f2).length c326_2]] (by rfl) rfl rfl zA ?_
       with_reducible refine (ih k2 (by have := HK1.out; have := HK2.out; omega) ((rd_T31 l0_2 x30_2).f0) (fun k_ => (((P0_1_ k_ ∨ P0_2_ k_) ∨ w.heap.size ≤ k_) ∧ (some k_ ≠ (u317001 : Value).ownBlock ∧ (some k_ ≠ (u317002 : Value).ownBlock ∧ (k_ ≠ gb314 ∧ (k_ ≠ gb315 ∧ k_ ≠ gb316)))))) _ _ ((rd_T31 l0_2 x30_2).f1) (fun k_ => (((P0_1_ k_ ∨ P0_2_ k_) ∨ w.heap.size ≤ k_) ∧ (some k_ ≠ (u317001 : Value).ownBlock ∧ (some k_ ≠ (u317002 : Value).ownBlock ∧ (k_ ≠ gb314 ∧ (k_ ≠ gb315 ∧ k_ ≠ gb316)))))) _ _ ((rd_T31 l0_2 x30_2).f2) t327 t328 t331 _ zG ?side1 ?side2 A28.out).mono ?_
       (case side1 => exact HL326_1.out)
       (case side2 => exact HL326_2.out)
       rintro e w31 ⟨v329, v332, rfl, ho0, ho1, hb⟩; have HS6_ := (hb.cell (World.block_lt_of_cell? _ _ (hHeld.2.2.2.2.2.2.1))).trans (hHeld.2.2.2.2.2.2.1); have HS7_ := (hb.cell (World.block_lt_of_cell? _ _ (hHeld.2.2.2.2.2.2.2.1))).trans (hHeld.2.2.2.2.2.2.2.1); have HS8_ := (hb.cell (World.block_lt_of_cell? _ _ (hHeld.2.2.2.2.2.2.2.2))).trans (hHeld.2.2.2.2.2.2.2.2); refine ⟨_, rfl, ?_⟩; have n0_ := Aside0.mk (Kd.V_mono (Kd.V_told (Kd.V_told (Kd.V_old (Kd.V_below HO_315001.out zX) hb) (Kd.N_base ho0)) (Kd.N_base ho1)) (fun _ h_ => h_.1)); have n1_ := Aside0.mk (Kd.V_mono (Kd.V_told (Kd.V_told (Kd.V_old (Kd.V_below HO_315002.out zX) hb) (Kd.N_base ho0)) (Kd.N_base ho1)) (fun _ h_ => h_.1)); have n2_ := Aside0.mk (Kd.N_mono (Kd.N_told (Kd.N_told (Kd.N_old (Kd.N_below HO_317001.out zX) hb) (Kd.N_base ho0)) (Kd.N_base ho1)) (fun _ h_ => h_.1))
       have n3_ := Aside0.mk (Kd.N_mono (Kd.N_told (Kd.N_told (Kd.N_old (Kd.N_below HO_317002.out zX) hb) (Kd.N_base ho0)) (Kd.N_base ho1)) (fun _ h_ => h_.1)); have n4_ := Aside0.mk (Kd.V_mono (Kd.V_told (Kd.V_told (Kd.V_old (Kd.V_below HL326_1.out zX) hb) (Kd.N_base ho0)) (Kd.N_base ho1)) (fun _ h_ => h_.1)); have n5_ := Aside0.mk (Kd.V_mono (Kd.V_told (Kd.V_told (Kd.V_old (Kd.V_below HL326_2.out zX) hb) (Kd.N_base ho0)) (Kd.N_base ho1)) (fun _ h_ => h_.1))
       have n6_ := Aside0.mk (Kd.N_lower (Kd.N_mono (ok' := fun k_ => ((P0_1_ k_ ∨ P0_2_ k_) ∨ w.heap.size ≤ k_) ∧ some k_ ≠ (v332 : Value).ownBlock ∧ some k_ ≠ (u317001 : Value).ownBlock ∧ some k_ ≠ (u317002 : Value).ownBlock ∧ k_ ≠ gb314 ∧ k_ ≠ gb315 ∧ k_ ≠ gb316) ho0 (fun k_ hk_ => ⟨Or.elim hk_.1 (fun hs_ => Or.elim hs_ (fun hs_ => hs_.1) (fun hs_ => hs_.1)) (fun hn_ => (.inr (Nat.le_trans (below_size zB) hn_))), hk_.2, Or.elim hk_.1 (fun hs_ => Or.elim hs_ (fun hs_ => hs_.2.1) (fun hs_ => hs_.2.1)) (fun hn_ => (Kd.fresh' (Kd.N_lt (Kd.N_below HO_317001.out zX)) k_ hn_)), Or.elim hk_.1 (fun hs_ => Or.elim hs_ (fun hs_ => hs_.2.2.1) (fun hs_ => hs_.2.2.1)) (fun hn_ => (Kd.fresh' (Kd.N_lt (Kd.N_below HO_317002.out zX)) k_ hn_)), Or.elim hk_.1 (fun hs_ => Or.elim hs_ (fun hs_ => hs_.2.2.2.1) (fun hs_ => hs_.2.2.2.1)) (fun hn_ => (Kd.freshB (g := gb314) (o := .cells #[.string a0_0, .slice A0_1 l0_1.length c0_1, .slice (some ad326) l0_2.length c0_2] 31 (0, 0)) (blk_below BK314.out zX) k_ hn_)), Or.elim hk_.1 (fun hs_ => Or.elim hs_ (fun hs_ => hs_.2.2.2.2.1) (fun hs_ => hs_.2.2.2.2.1)) (fun hn_ => (Kd.freshB (g := gb315) (o := .cells #[.string (⟨#[]⟩ : ByteArray), .slice none 0 0, .slice none 0 0] 25 (0, 0)) (blk_below BK315.out zX) k_ hn_)), Or.elim hk_.1 (fun hs_ => Or.elim hs_ (fun hs_ => hs_.2.2.2.2.2) (fun hs_ => hs_.2.2.2.2.2)) (fun hn_ => (Kd.freshB (g := gb316) (o := .cells #[.string a0_0, u317001, u317002] 25 (0, 0)) (blk_below BK316.out zX) k_ hn_))⟩)) (below_size zB))
       have n7_ := Aside0.mk (Kd.N_lower (Kd.N_mono (ok' := fun k_ => ((P0_1_ k_ ∨ P0_2_ k_) ∨ w.heap.size ≤ k_) ∧ some k_ ≠ (v329 : Value).ownBlock ∧ some k_ ≠ (u317001 : Value).ownBlock ∧ some k_ ≠ (u317002 : Value).ownBlock ∧ k_ ≠ gb314 ∧ k_ ≠ gb315 ∧ k_ ≠ gb316) ho1 (fun k_ hk_ => ⟨Or.elim hk_.1 (fun hs_ => Or.elim hs_ (fun hs_ => hs_.1) (fun hs_ => hs_.1)) (fun hn_ => (.inr (Nat.le_trans (below_size zB) hn_))), hk_.2, Or.elim hk_.1 (fun hs_ => Or.elim hs_ (fun hs_ => hs_.2.1) (fun hs_ => hs_.2.1)) (fun hn_ => (Kd.fresh' (Kd.N_lt (Kd.N_below HO_317001.out zX)) k_ hn_)), Or.elim hk_.1 (fun hs_ => Or.elim hs_ (fun hs_ => hs_.2.2.1) (fun hs_ => hs_.2.2.1)) (fun hn_ => (Kd.fresh' (Kd.N_lt (Kd.N_below HO_317002.out zX)) k_ hn_)), Or.elim hk_.1 (fun hs_ => Or.elim hs_ (fun hs_ => hs_.2.2.2.1) (fun hs_ => hs_.2.2.2.1)) (fun hn_ => (Kd.freshB (g := gb314) (o := .cells #[.string a0_0, .slice A0_1 l0_1.length c0_1, .slice (some ad326) l0_2.length c0_2] 31 (0, 0)) (blk_below BK314.out zX) k_ hn_)), Or.elim hk_.1 (fun hs_ => Or.elim hs_ (fun hs_ => hs_.2.2.2.2.1) (fun hs_ => hs_.2.2.2.2.1)) (fun hn_ => (Kd.freshB (g := gb315) (o := .cells #[.string (⟨#[]⟩ : ByteArray), .slice none 0 0, .slice none 0 0] 25 (0, 0)) (blk_below BK315.out zX) k_ hn_)), Or.elim hk_.1 (fun hs_ => Or.elim hs_ (fun hs_ => hs_.2.2.2.2.2) (fun hs_ => hs_.2.2.2.2.2)) (fun hn_ => (Kd.freshB (g := gb316) (o := .cells #[.string a0_0, u317001, u317002] 25 (0, 0)) (blk_below BK316.out zX) k_ hn_))⟩)) (below_size zB))
       have n8_ := zb BK314 hb; have n9_ := zb BK315 hb; have n10_ := zb BK316 hb; have n11_ := Aside0.mk (Kd.C_below (by repeat (first | (with_reducible exact HR326_1.out) | (with_reducible refine Kd.C_alloc ?_ _) | (with_reducible refine Kd.C_drewN ?_ _) | (with_reducible refine Kd.C_drew ?_) | exact HR326_1.out)) hb); have n12_ := Aside0.mk (Kd.C_below (by repeat (first | (with_reducible exact HR326_2.out) | (with_reducible refine Kd.C_alloc ?_ _) | (with_reducible refine Kd.C_drewN ?_ _) | (with_reducible refine Kd.C_drew ?_) | exact HR326_2.out)) hb); have n13_ := zw hb; clear HO_315001; clear HO_315002; clear HO_317001; clear HO_317002; clear HL326_1; clear HL326_2; clear BK314; clear BK315; clear BK316; clear HR326_1; clear HR326_2
       clear HB; have HO_315001 := n0_; have HO_315002 := n1_; have HO_317001 := n2_; have HO_317002 := n3_; have HL326_1 := n4_; have HL326_2 := n5_; have HO330 := n6_; have HO333 := n7_; have BK314 := n8_; have BK315 := n9_; have BK316 := n10_; have HR326_1 := n11_; have HR326_2 := n12_; have HB := n13_; clear n0_ n1_ n2_ n3_ n4_ n5_ n6_ n7_ n8_ n9_ n10_ n11_ n12_ n13_; (try clear hb); (try clear hb2); (try clear hk); (try clear hi); (try clear ho0); (try clear ho1); obtain ⟨Ao33, co33, eo33⟩ := Kd.N_slice HO330.out
       (first | subst eo33 | (injection eo33 with f1_ f2_ f3_; have f4_ := f1_.symm; have f5_ := f3_.symm; clear f1_ f2_ f3_; subst f4_; subst f5_))
       obtain ⟨Ao34, co34, eo34⟩ := Kd.N_slice HO333.out
       (first | subst eo34 | (injection eo34 with f1_ f2_ f3_; have f4_ := f1_.symm; have f5_ := f3_.symm; clear f1_ f2_ f3_; subst f4_; subst f5_))
       refine hK.out _ _ ⟨(blk_cell BK316.out 0).trans rfl, (blk_cell BK316.out 1).trans rfl, (blk_cell BK316.out 2).trans rfl, (blk_cell BK314.out 0).trans rfl, (blk_cell BK314.out 1).trans rfl, (blk_cell BK314.out 2).trans rfl, HS6_, HS7_, HS8_⟩ (fun hHeld => ?_); clear hK K; refine zr ?_; refine one_ (i := 8) (N := some 41) (bs 12 511) rfl rfl (one_of HT_.out (by kernel_rfl)) (by decide) (fun K hK => ?_); refine value_ (w1 := ?_) (v := ?_) (by rfl) rfl ?_ ?_; rotate_left 2
       ·go_simp
        constructor
        ·rfl
        ·rfl
       refine hK.out _ _ ⟨(blk_cell (blk_alloc BK316.out _) 0).trans rfl, (blk_cell (blk_alloc BK316.out _) 1).trans rfl, (blk_cell (blk_alloc BK316.out _) 2).trans rfl, (blk_cell (blk_alloc BK314.out _) 0).trans rfl, (blk_cell (blk_alloc BK314.out _) 1).trans rfl, (blk_cell (blk_alloc BK314.out _) 2).trans rfl, (World.cell?_alloc_lt _ _ _ (World.block_lt_of_cell? _ _ (hHeld.2.2.2.2.2.2.1))).trans (hHeld.2.2.2.2.2.2.1), (World.cell?_alloc_lt _ _ _ (World.block_lt_of_cell? _ _ (hHeld.2.2.2.2.2.2.2.1))).trans (hHeld.2.2.2.2.2.2.2.1), (World.cell?_alloc_lt _ _ _ (World.block_lt_of_cell? _ _ (hHeld.2.2.2.2.2.2.2.2))).trans (hHeld.2.2.2.2.2.2.2.2)⟩ (fun hHeld => ?_); clear hK K; refine zr ?_; refine last_ (i := 9) (N := some 42) (bs 12 1023) rfl rfl (one_of HT_.out (by kernel_rfl)) (by decide) (fun K hK => ?_)
       refine Kd.N_append_step k25 (w0 := w) w.heap.size (by rfl) (.tmp 34) (.tmp 41) 23 25 (.agg #[(.string ⟨#[]⟩), (.slice none 0 0), (.slice none 0 0)]) 64 rfl Tryz.underlying23 info25 rfl (by decide) (by omega) u317002 x317002_2 (⟨t327, t328, t331⟩ : S25) [.string t327, .slice Ao33 t328.length co33, .slice Ao34 t331.length co34] (fun k_ => ((P0_1_ k_ ∨ P0_2_ k_) ∨ w.heap.size ≤ k_) ∧ some k_ ≠ (u317001 : Value).ownBlock ∧ k_ ≠ gb314 ∧ k_ ≠ gb315 ∧ k_ ≠ gb316) (fun k_ => ((fun k_ => ((P0_1_ k_ ∨ P0_2_ k_) ∨ w.heap.size ≤ k_) ∧ some k_ ≠ (u317001 : Value).ownBlock ∧ k_ ≠ gb314 ∧ k_ ≠ gb315 ∧ k_ ≠ gb316)) k_ ∧ some k_ ≠ (u317002 : Value).ownBlock) rfl rfl ?aP (fun _ hk => hk) ?aF ?aO ?aB ?aS ?aL ?_
       (case aP => exact (k25_mkF _ _ (⟨t327, t328, t331⟩ : S25) (Kd.N_reads' (Kd.N_mono (ok' := (fun k_ => ((fun k_ => ((P0_1_ k_ ∨ P0_2_ k_) ∨ w.heap.size ≤ k_) ∧ some k_ ≠ (u317001 : Value).ownBlock ∧ k_ ≠ gb314 ∧ k_ ≠ gb315 ∧ k_ ≠ gb316)) k_ ∧ some k_ ≠ (u317002 : Value).ownBlock)) (HO330.out) (fun k_ hk => ⟨⟨hk.1, ⟨hk.2.2.1, ⟨hk.2.2.2.2.1, ⟨hk.2.2.2.2.2.1, hk.2.2.2.2.2.2⟩⟩⟩⟩, hk.2.2.2.1⟩))).2.1 (Kd.N_F (Kd.N_mono (ok' := (fun k_ => ((fun k_ => ((P0_1_ k_ ∨ P0_2_ k_) ∨ w.heap.size ≤ k_) ∧ some k_ ≠ (u317001 : Value).ownBlock ∧ k_ ≠ gb314 ∧ k_ ≠ gb315 ∧ k_ ≠ gb316)) k_ ∧ some k_ ≠ (u317002 : Value).ownBlock)) (HO330.out) (fun k_ hk => ⟨⟨hk.1, ⟨hk.2.2.1, ⟨hk.2.2.2.2.1, ⟨hk.2.2.2.2.2.1, hk.2.2.2.2.2.2⟩⟩⟩⟩, hk.2.2.2.1⟩))) (Kd.N_reads' (Kd.N_mono (ok' := (fun k_ => ((fun k_ => ((P0_1_ k_ ∨ P0_2_ k_) ∨ w.heap.size ≤ k_) ∧ some k_ ≠ (u317001 : Value).ownBlock ∧ k_ ≠ gb314 ∧ k_ ≠ gb315 ∧ k_ ≠ gb316)) k_ ∧ some k_ ≠ (u317002 : Value).ownBlock)) (HO333.out) (fun k_ hk => ⟨⟨hk.1, ⟨hk.2.2.1, ⟨hk.2.2.2.2.1, ⟨hk.2.2.2.2.2.1, hk.2.2.2.2.2.2⟩⟩⟩⟩, hk.2.2.2.1⟩))).2.1 (Kd.N_F (Kd.N_mono (ok' := (fun k_ => ((fun k_ => ((P0_1_ k_ ∨ P0_2_ k_) ∨ w.heap.size ≤ k_) ∧ some k_ ≠ (u317001 : Value).ownBlock ∧ k_ ≠ gb314 ∧ k_ ≠ gb315 ∧ k_ ≠ gb316)) k_ ∧ some k_ ≠ (u317002 : Value).ownBlock)) (HO333.out) (fun k_ hk => ⟨⟨hk.1, ⟨hk.2.2.1, ⟨hk.2.2.2.2.1, ⟨hk.2.2.2.2.2.1, hk.2.2.2.2.2.2⟩⟩⟩⟩, hk.2.2.2.1⟩)))))
       (case aB => exact zB)
       (case aF => exact (fun k_ hk => ⟨(.inr (Nat.le_trans (below_size zB) hk)), Kd.fresh' (Kd.N_lt (Kd.N_below HO_317001.out zX)) k_ hk, Kd.freshB (g := gb314) (o := .cells #[.string a0_0, .slice A0_1 l0_1.length c0_1, .slice (some ad326) l0_2.length c0_2] 31 (0, 0)) (blk_below BK314.out zX) k_ hk, Kd.freshB (g := gb315) (o := .cells #[.string (⟨#[]⟩ : ByteArray), .slice none 0 0, .slice none 0 0] 25 (0, 0)) (blk_below BK315.out zX) k_ hk, Kd.freshB (g := gb316) (o := .cells #[.string a0_0, u317001, u317002] 25 (0, 0)) (blk_below BK316.out zX) k_ hk⟩))
       (case aO => exact (by (with_reducible repeat (first | apply Kd.N_alloc | apply Kd.N_drewN | apply Kd.N_drew)); exact Kd.N_mono HO_317002.out (fun _ hk => ⟨hk.1.1.1, ⟨hk.1.1.2.1, ⟨hk.1.1.2.2.1, ⟨hk.1.1.2.2.2.1, hk.1.1.2.2.2.2⟩⟩⟩⟩)))
       (case aS => exact (below_size zB))
       (case aL => have := LMc29.out; omega)
       intro v335 w32 ho hb hg hat; rw [← Ny334.out] at ho; have n0_ := Aside0.mk (Kd.V_afterv (ok := (fun k_ => ((P0_1_ k_ ∨ P0_2_ k_) ∨ w.heap.size ≤ k_) ∧ some k_ ≠ (u317001 : Value).ownBlock ∧ some k_ ≠ (.slice Ao33 t328.length co33 : Value).ownBlock ∧ some k_ ≠ (.slice Ao34 t331.length co34 : Value).ownBlock ∧ k_ ≠ gb314 ∧ k_ ≠ gb315 ∧ k_ ≠ gb316)) (by (with_reducible repeat (first | apply Kd.V_alloc | apply Kd.V_drewN | apply Kd.V_drew)); exact Kd.V_mono HO_315001.out (fun _ hk => ⟨⟨hk.1.1.1, ⟨hk.1.1.2.1, ⟨hk.1.2, ⟨hk.2, ⟨hk.1.1.2.2.2.1, ⟨hk.1.1.2.2.2.2.1, hk.1.1.2.2.2.2.2⟩⟩⟩⟩⟩⟩, hk.1.1.2.2.1⟩)) hg hat)
       have n1_ := Aside0.mk (Kd.V_afterv (ok := (fun k_ => ((P0_1_ k_ ∨ P0_2_ k_) ∨ w.heap.size ≤ k_) ∧ some k_ ≠ (u317001 : Value).ownBlock ∧ some k_ ≠ (.slice Ao33 t328.length co33 : Value).ownBlock ∧ some k_ ≠ (.slice Ao34 t331.length co34 : Value).ownBlock ∧ k_ ≠ gb314 ∧ k_ ≠ gb315 ∧ k_ ≠ gb316)) (by (with_reducible repeat (first | apply Kd.V_alloc | apply Kd.V_drewN | apply Kd.V_drew)); exact Kd.V_mono HO_315002.out (fun _ hk => ⟨⟨hk.1.1.1, ⟨hk.1.1.2.1, ⟨hk.1.2, ⟨hk.2, ⟨hk.1.1.2.2.2.1, ⟨hk.1.1.2.2.2.2.1, hk.1.1.2.2.2.2.2⟩⟩⟩⟩⟩⟩, hk.1.1.2.2.1⟩)) hg hat)
       have n2_ := Aside0.mk (Kd.N_afterv (ok := (fun k_ => ((P0_1_ k_ ∨ P0_2_ k_) ∨ w.heap.size ≤ k_) ∧ some k_ ≠ (.slice Ao33 t328.length co33 : Value).ownBlock ∧ some k_ ≠ (.slice Ao34 t331.length co34 : Value).ownBlock ∧ k_ ≠ gb314 ∧ k_ ≠ gb315 ∧ k_ ≠ gb316)) (by (with_reducible repeat (first | apply Kd.N_alloc | apply Kd.N_drewN | apply Kd.N_drew)); exact Kd.N_mono HO_317001.out (fun _ hk => ⟨⟨hk.1.1.1, ⟨hk.1.2, ⟨hk.2, ⟨hk.1.1.2.2.1, ⟨hk.1.1.2.2.2.1, hk.1.1.2.2.2.2⟩⟩⟩⟩⟩, hk.1.1.2.1⟩)) hg hat); have n3_ := Aside0.mk (blk_grown (g := gb314) (o := .cells #[.string a0_0, .slice A0_1 l0_1.length c0_1, .slice (some ad326) l0_2.length c0_2] 31 (0, 0)) (blk_below BK314.out zX) hg (Kd.N_ne HO_317002.out BK314.out (by decide)))
       have n4_ := Aside0.mk (blk_grown (g := gb315) (o := .cells #[.string (⟨#[]⟩ : ByteArray), .slice none 0 0, .slice none 0 0] 25 (0, 0)) (blk_below BK315.out zX) hg (Kd.N_away HO_317002.out (fun _ hk => hk.1.1.2.2.2.1))); have n5_ := Aside0.mk (blk_grown (g := gb316) (o := .cells #[.string a0_0, u317001, u317002] 25 (0, 0)) (blk_below BK316.out zX) hg (Kd.N_away HO_317002.out (fun _ hk => hk.1.1.2.2.2.2)))
       have n6_ := Aside0.mk (Kd.V_afterv (ok := (fun k_ => ((P0_1_ k_ ∨ P0_2_ k_) ∨ w.heap.size ≤ k_) ∧ some k_ ≠ (u317001 : Value).ownBlock ∧ some k_ ≠ (.slice Ao33 t328.length co33 : Value).ownBlock ∧ some k_ ≠ (.slice Ao34 t331.length co34 : Value).ownBlock ∧ k_ ≠ gb314 ∧ k_ ≠ gb315 ∧ k_ ≠ gb316)) (by (with_reducible repeat (first | apply Kd.V_alloc | apply Kd.V_drewN | apply Kd.V_drew)); exact Kd.V_mono HL326_1.out (fun _ hk => ⟨⟨hk.1.1.1, ⟨hk.1.1.2.1, ⟨hk.1.2, ⟨hk.2, ⟨hk.1.1.2.2.2.1, ⟨hk.1.1.2.2.2.2.1, hk.1.1.2.2.2.2.2⟩⟩⟩⟩⟩⟩, hk.1.1.2.2.1⟩)) hg hat)
       have n7_ := Aside0.mk (Kd.V_afterv (ok := (fun k_ => ((P0_1_ k_ ∨ P0_2_ k_) ∨ w.heap.size ≤ k_) ∧ some k_ ≠ (u317001 : Value).ownBlock ∧ some k_ ≠ (.slice Ao33 t328.length co33 : Value).ownBlock ∧ some k_ ≠ (.slice Ao34 t331.length co34 : Value).ownBlock ∧ k_ ≠ gb314 ∧ k_ ≠ gb315 ∧ k_ ≠ gb316)) (by (with_reducible repeat (first | apply Kd.V_alloc | apply Kd.V_drewN | apply Kd.V_drew)); exact Kd.V_mono HL326_2.out (fun _ hk => ⟨⟨hk.1.1.1, ⟨hk.1.1.2.1, ⟨hk.1.2, ⟨hk.2, ⟨hk.1.1.2.2.2.1, ⟨hk.1.1.2.2.2.2.1, hk.1.1.2.2.2.2.2⟩⟩⟩⟩⟩⟩, hk.1.1.2.2.1⟩)) hg hat); have n8_ := Aside0.mk (hb); have n9_ := Aside0.mk (ho); clear HO_315001; clear HO_315002; clear HO_317001; clear BK314; clear BK315; clear BK316; clear HL326_1; clear HL326_2; clear HB; clear HO_317002; clear HO330; clear HO333; have HO_315001 := n0_; have HO_315002 := n1_; have HO_317001 := n2_; have BK314 := n3_
       have BK315 := n4_; have BK316 := n5_; have HL326_1 := n6_; have HL326_2 := n7_; have HB := n8_; have HO336 := n9_; clear n0_ n1_ n2_ n3_ n4_ n5_ n6_ n7_ n8_ n9_; clear ho hb hg hat; obtain ⟨Ao35, co35, eo35⟩ := Kd.N_slice HO336.out
       (first | subst eo35 | (injection eo35 with f1_ f2_ f3_; have f4_ := f1_.symm; have f5_ := f3_.symm; clear f1_ f2_ f3_; subst f4_; subst f5_))
       refine hK.out _ _ ?_; clear hK K; refine zr ?_; refine zp 10 43 (bs 12 2047) ?_; refine last_ (i := 11) (N := none) (bs 12 4095) rfl rfl (one_of HT_.out (by kernel_rfl)) (by decide) (fun K hK => ?_); have hs36 : w32.cell? ⟨gb316, 2, none⟩ = some (u317002) := (blk_cell BK316.out 2).trans rfl; have hfs36 := zf BK316 2; have hns36_0 := NB314_316.out; have hns36_1 := NB315_316.out; have hms36_0 := NB316_314.out; have hms36_1 := NB316_315.out; refine skip_ (w1 := ?_) (by rfl) rfl ?_ ?_; rotate_left
       ·go_simp; rfl
       refine hK.out _ _ ?_; clear hK K; refine done_ (done_of HT_.out (by kernel_rfl)) ?_
       try go_wp2
       go_roundg k2
       case measure => have := HK1.out; have := HK2.out; omega
       case rel => exact ⟨(wrap64 (x30_2 + 1)), (y334), (.slice Ao35 y334.length co35), zS, H', ⟨by have := HK1.out; have := HK2.out; omega⟩, ⟨by (with_reducible repeat (first | apply Kd.V_alloc | apply Kd.V_drewN | apply Kd.V_drew)); exact Kd.V_mono (Kd.V_far (p := ⟨gb316, 2, none⟩) (Kd.V_mono HO_315001.out (fun k_ hk => (⟨hk, hk.1.2.2.2.2.2.2⟩ : _ ∧ k_ ≠ gb316))) (fun _ hk => hk.2) (.slice Ao35 y334.length co35)) (fun _ hk => ⟨hk.1.1.1, ⟨hk.1.1.2.1, ⟨hk.1.2, ⟨hk.1.1.2.2.2.2.1, ⟨hk.1.1.2.2.2.2.2.1, hk.1.1.2.2.2.2.2.2⟩⟩⟩⟩⟩)⟩, ⟨by (with_reducible repeat (first | apply Kd.V_alloc | apply Kd.V_drewN | apply Kd.V_drew)); exact Kd.V_mono (Kd.V_far (p := ⟨gb316, 2, none⟩) (Kd.V_mono HO_315002.out (fun k_ hk => (⟨hk, hk.1.2.2.2.2.2.2⟩ : _ ∧ k_ ≠ gb316))) (fun _ hk => hk.2) (.slice Ao35 y334.length co35)) (fun _ hk => ⟨hk.1.1.1, ⟨hk.1.1.2.1, ⟨hk.1.2, ⟨hk.1.1.2.2.2.2.1, ⟨hk.1.1.2.2.2.2.2.1, hk.1.1.2.2.2.2.2.2⟩⟩⟩⟩⟩)⟩, ⟨by (with_reducible repeat (first | apply Kd.N_alloc | apply Kd.N_drewN | apply Kd.N_drew)); exact Kd.N_mono (Kd.N_far (p := ⟨gb316, 2, none⟩) (Kd.N_mono HO_317001.out (fun k_ hk => (⟨hk, hk.1.2.2.2.2.2⟩ : _ ∧ k_ ≠ gb316))) (fun _ hk => hk.2) (.slice Ao35 y334.length co35)) (fun _ hk => ⟨hk.1.1.1, ⟨hk.1.2, ⟨hk.1.1.2.2.2.1, ⟨hk.1.1.2.2.2.2.1, hk.1.1.2.2.2.2.2⟩⟩⟩⟩)⟩, ⟨by (with_reducible repeat (first | apply Kd.N_alloc | apply Kd.N_drewN | apply Kd.N_drew)); exact Kd.N_mono (Kd.N_far (p := ⟨gb316, 2, none⟩) (Kd.N_mono HO336.out (fun k_ hk => (⟨hk, hk.2.2.2.2⟩ : _ ∧ k_ ≠ gb316))) (fun _ hk => hk.2) (.slice Ao35 y334.length co35)) (fun _ hk => ⟨hk.1.1, ⟨hk.1.2.1, ⟨hk.1.2.2.1, ⟨hk.1.2.2.2.1, hk.1.2.2.2.2⟩⟩⟩⟩)⟩, ⟨by (with_reducible repeat (first | refine blk_drewN ?_ _ | refine blk_drew ?_ | refine blk_alloc ?_ _)); refine blk_far ?_ NB314_316.out _; (with_reducible repeat (first | refine blk_drewN ?_ _ | refine blk_drew ?_ | refine blk_alloc ?_ _)); exact BK314.out⟩, ⟨by (with_reducible repeat (first | refine blk_drewN ?_ _ | refine blk_drew ?_ | refine blk_alloc ?_ _)); refine blk_far ?_ NB315_316.out _; (with_reducible repeat (first | refine blk_drewN ?_ _ | refine blk_drew ?_ | refine blk_alloc ?_ _)); exact BK315.out⟩, ⟨by (with_reducible repeat (first | refine blk_drewN ?_ _ | refine blk_drew ?_ | refine blk_alloc ?_ _)); refine blk_put (cs := #[.string a0_0, u317001, u317002]) ?_ 2 _ rfl; (with_reducible repeat (first | refine blk_drewN ?_ _ | refine blk_drew ?_ | refine blk_alloc ?_ _)); exact BK316.out⟩, ⟨zB⟩⟩
      ·simp only [Option.some.injEq, Prod.mk.injEq] at H; obtain ⟨rfl, rfl, rfl⟩ := H; have hnb37 := NB316_314.out; have hnc37 := NB314_316.out; have hnb38 := NB316_315.out; have hnc38 := NB315_316.out; obtain ⟨hcz39_0, hcz39_1, hcz39_2, hfz39_0, hfz39_1, hfz39_2⟩ := zk3 BK316; have hnb40 := NB315_314.out; have hnc40 := NB314_315.out; have hcz41_0 := zc0 BK315; have hcz41_1 := zc1 BK315
       have hcz41_2 := zc2 BK315; have hfz41_0 := zf BK315 0; have hfz41_1 := zf BK315 1; have hfz41_2 := zf BK315 2; obtain ⟨Ao42, co42, eo42⟩ := Kd.N_slice HO_317001.out; subst eo42; obtain ⟨Ao43, co43, eo43⟩ := Kd.N_slice HO_317002.out; subst eo43; go_wp2
       refine bodyPost_ret (results_cell_row rfl _ _ gb315 25 #[.string a0_0, .slice Ao42 x317001_1.length co42, .slice Ao43 x317002_2.length co43] (0, 0) _ rfl (by (with_reducible repeat (first | refine blk_drewN ?_ _ | refine blk_drew ?_ | refine blk_alloc ?_ _)); refine blk_put (cs := #[.string a0_0, .slice Ao42 x317001_1.length co42, .slice none 0 0]) ?_ 2 _ rfl; (with_reducible repeat (first | refine blk_drewN ?_ _ | refine blk_drew ?_ | refine blk_alloc ?_ _)); refine blk_put (cs := #[.string a0_0, .slice none 0 0, .slice none 0 0]) ?_ 1 _ rfl; (with_reducible repeat (first | refine blk_drewN ?_ _ | refine blk_drew ?_ | refine blk_alloc ?_ _)); refine blk_put (cs := #[.string (⟨#[]⟩ : ByteArray), .slice none 0 0, .slice none 0 0]) ?_ 0 _ rfl; (with_reducible repeat (first | refine blk_drewN ?_ _ | refine blk_drew ?_ | refine blk_alloc ?_ _)); exact BK315.out) Tryz.underlying25 rfl (by kernel_rfl)) rfl ?_
       exact ⟨_, _, zE, by (with_reducible repeat (first | apply Kd.N_alloc | apply Kd.N_drewN | apply Kd.N_drew)); exact Kd.N_mono (Kd.N_far (p := ⟨gb315, 2, none⟩) (Kd.N_far (p := ⟨gb315, 1, none⟩) (Kd.N_far (p := ⟨gb315, 0, none⟩) (Kd.N_mono HO_317001.out (fun k_ hk => (⟨hk, hk.2.2.2.1⟩ : _ ∧ k_ ≠ gb315))) (fun _ hk => hk.2) (.string a0_0)) (fun _ hk => hk.2) (.slice Ao42 x317001_1.length co42)) (fun _ hk => hk.2) (.slice Ao43 x317002_2.length co43)) (fun _ hk => ⟨hk.1.1, hk.1.2.1⟩), by (with_reducible repeat (first | apply Kd.N_alloc | apply Kd.N_drewN | apply Kd.N_drew)); exact Kd.N_mono (Kd.N_far (p := ⟨gb315, 2, none⟩) (Kd.N_far (p := ⟨gb315, 1, none⟩) (Kd.N_far (p := ⟨gb315, 0, none⟩) (Kd.N_mono HO_317002.out (fun k_ hk => (⟨hk, hk.2.2.2.1⟩ : _ ∧ k_ ≠ gb315))) (fun _ hk => hk.2) (.string a0_0)) (fun _ hk => hk.2) (.slice Ao42 x317001_1.length co42)) (fun _ hk => hk.2) (.slice Ao43 x317002_2.length co43)) (fun _ hk => ⟨hk.1.1, hk.1.2.1⟩), zB⟩
end Go.Proofs.YtdojmdbaiddkgaaGreatDoor.Print
end
section
namespace Go.Proofs.YtdojmdbaiddkgaaGreatDoor.Print
open Go.RowKit Go.Proofs.YtdojmdbaiddkgaaGreatDoorW.PrintWords Go.Proofs.YtdojmdbaiddkgaaGreatDoorW.PrintLast Go.Proofs.YtdojmdbaiddkgaaGreatDoorW.PrintMore
set_option linter.unusedVariables false
set_option linter.unusedSimpArgs false
def trystlaw11_TreeBack.j0 : Nat → Bool → ByteArray → List (S53) → List (S25) → Option (Bool)
 | 0, _, _, _, _ => none
 | k + 1, x14, x338000, x338001, x338002 => if x14 = true then ((trystlaw11_awake.f k).bind fun t340 => (some t340)) else ((trystlaw11_Theirs.f k x338000 x338001 x338002).bind fun bt341 => ((tree_Print.f k bt341.1 bt341.2.1 bt341.2.2).bind fun bt348 => (if bt348.2 = 0 then ((tree_Parse.f k bt348.1).bind fun bt350 => (if bt350.2.2.2.2 = 0 then (if bt350.2.2.2.1 = 0 then ((trystlaw11_Ours.f k bt350.1 bt350.2.1 bt350.2.2.1).bind fun bt360 => ((trystlaw11_Same.f k bt360.1 bt360.2.1 bt360.2.2 x338000 x338001 x338002).bind fun t367 => (some t367))) else (some false)) else (some false))) else (some (bt348.1.toList == ([] : List UInt8))))))
def trystlaw11_TreeBack.f (k : Nat) (a0_0 : ByteArray) (l0_1 : List (S53)) (l0_2 : List (S25)) : Option (Bool) := (trystlaw11_awake.f k).bind fun t338 => (if t338 = true then ((trystlaw11_Few.f k a0_0 l0_1 l0_2).bind fun t339 => (trystlaw11_TreeBack.j0 k (!t339) a0_0 l0_1 l0_2)) else (trystlaw11_TreeBack.j0 k true a0_0 l0_1 l0_2))
def trystlaw11_TreeBack.T7 : Bool × List (List Nat × List Nat) := (true, [([], []), ([0], [0]), ([1], [1]), ([2], [2]), ([3, 2], [2, 3]), ([2, 4], [2, 4]), ([5, 2], [5]), ([6], [6]), ([7, 6, 6], [6, 7]), ([6], [6]), ([8, 9, 8, 6], [6, 8, 9]), ([6, 10], [6, 10]), ([11, 10, 0, 1, 2, 3, 4, 5, 6, 7, 8, 9, 10, 11], [11])])
def trystlaw11_TreeBack.B7 : List Nat := [0, 1, 3, 7, 15, 31, 63, 127, 255, 127, 1023, 2047, 4095]
theorem trystlaw11_TreeBack.tab7 : rtab .any (opsOf Tryz.f4 7) = trystlaw11_TreeBack.T7 := by kernel_rfl
theorem trystlaw11_TreeBack.bits7 : waitsOk trystlaw11_TreeBack.T7.2 trystlaw11_TreeBack.B7 = true := by kernel_rfl
set_option maxHeartbeats 8000000 in
set_option maxRecDepth 100000 in
theorem trystlaw11_TreeBack.calls (k : Nat) (a0_0 : ByteArray) (A0_1 : Option Addr) (c0_1 : Nat) (l0_1 : List (S53)) (A0_2 : Option Addr) (c0_2 : Nat) (l0_2 : List (S25)) (r : Bool) (w : World) (hG : GG w) (hr0_1 : Kd.C k53 w A0_1 l0_1.length l0_1) (hc0_1 : l0_1.length ≤ c0_1) (hr0_2 : Kd.C k25 w A0_2 l0_2.length l0_2) (hc0_2 : l0_2.length ≤ c0_2) (h : trystlaw11_TreeBack.f k a0_0 l0_1 l0_2 = some r) :
  Calls Tryz.prog 4 #[.agg #[.string a0_0, .slice A0_1 l0_1.length c0_1, .slice A0_2 l0_2.length c0_2]] w fun e w' => e = .returned (.bool r) ∧ Below w.heap.size w w' := by
 have hu25 := Tryz.underlying25; have hu31 := Tryz.underlying31; have HR0_1 := Aside0.mk hr0_1; have HC0_1 := Aside0.mk hc0_1; clear hr0_1 hc0_1; have HR0_2 := Aside0.mk hr0_2; have HC0_2 := Aside0.mk hc0_2; clear hr0_2 hc0_2; have HB := Aside0.mk (Below.refl w.heap.size w); have H : ((trystlaw11_awake.f k).bind fun t338 => (if t338 = true then ((trystlaw11_Few.f k a0_0 l0_1 l0_2).bind fun t339 => (trystlaw11_TreeBack.j0 k (!t339) a0_0 l0_1 l0_2)) else (trystlaw11_TreeBack.j0 k true a0_0 l0_1 l0_2))) = some r := h; clear h; have HC2 := Aside0.mk H; clear H
 go_enter Tryz.func4, Tryz.ntmps4
 go_upto_region 1 with (first | ((with_reducible refine gate_dst (N := 1) rfl ?_); refine zbox (N := 1) #[.string a0_0, .slice A0_1 l0_1.length c0_1, .slice A0_2 l0_2.length c0_2] 25 (fun gb337 hg w3 hbox hb => ?_); replace BK337 := Aside0.mk hbox; replace GE337 := zg w hg; replace HB := zw hb; clear hb hbox hg))
 (try simp only [Act.put, List.setIfInBounds_toArray, List.set_cons_zero, List.set_cons_succ])
 go_cut [14] (fun v14 wc => ∃ (kq : Nat) (x14_1 : Bool), v14 = .bool x14_1 ∧ Aside0 (trystlaw11_TreeBack.j0 kq x14_1 a0_0 l0_1 l0_2 = some r) ∧ Aside0 (kq ≤ k) ∧ Aside0 (wc.heap[gb337]? = some (.cells #[.string a0_0, (.slice A0_1 l0_1.length c0_1), (.slice A0_2 l0_2.length c0_2)] 25 (0, 0))) ∧ Aside0 (Below w.heap.size w wc))
 case first =>
  have H := HC2.out; clear HC2; replace H := zO H; obtain ⟨t338, A4, H⟩ := H; replace H := zIb H; rcases H with ⟨rfl, H⟩ | ⟨rfl, H⟩
  ·replace H := zO H; obtain ⟨t339, A6, H⟩ := H; have H' := Aside0.mk H; clear H
   go_wp2_with (first | ((with_reducible refine gate_callee (f := 6) rfl ?_); refine zqb 8 Tryz.func6 #[] (trystlaw11_awake.calls k  true _ zG A4.out) (fun w7 hb => ?_); replace BK337 := zb BK337 hb; replace HB := zw hb; (try clear hb); obtain ⟨hcz8_0, hcz8_1, hcz8_2, hfz8_0, hfz8_1, hfz8_2⟩ := zk3 BK337) | (go_at_call 7; (with_reducible refine (trystlaw11_Few.calls k a0_0 _ _ l0_1 _ _ l0_2 t339 _ zG ?side1 ?side2 ?side3 ?side4 A6.out).mono ?_); (case side1 => exact Kd.C_below (Kd.C_below HR0_1.out HB.out) zX); (case side2 => exact HC0_1.out); (case side3 => exact Kd.C_below (Kd.C_below HR0_2.out HB.out) zX); (case side4 => exact HC0_2.out); rintro e w9 ⟨rfl, hb⟩; replace BK337 := zb BK337 hb; replace HB := zw hb; clear hb))
   go_meet
   case rel => exact ⟨_, (!t339), zS, H', ⟨by first | omega | exact Nat.le_refl _⟩, ⟨blk_below BK337.out zX⟩, ⟨zB⟩⟩
  ·have H' := Aside0.mk H; clear H
   go_wp2_with (first | ((with_reducible refine gate_callee (f := 6) rfl ?_); refine zqb 8 Tryz.func6 #[] (trystlaw11_awake.calls k  false _ zG A4.out) (fun w10 hb => ?_); replace BK337 := zb BK337 hb; replace HB := zw hb; (try clear hb)))
   go_meet
   case rel => exact ⟨_, (true), zS, H', ⟨by first | omega | exact Nat.le_refl _⟩, ⟨blk_below BK337.out zX⟩, ⟨zB⟩⟩
 case rest =>
  clear HC2; obtain ⟨kq, x14_1, rfl, HA, HJ1, BK337, HB⟩ := hcut
  cases kq with
  | zero => exact absurd HA.out (by simp [trystlaw11_TreeBack.j0])
  | succ kj1 =>
   have H := HA.out; clear HA; simp only [trystlaw11_TreeBack.j0] at H; replace H := zIb H; rcases H with ⟨rfl, H⟩ | ⟨rfl, H⟩
   ·replace H := zO H; obtain ⟨t340, A12, H⟩ := H; obtain rfl := Option.some.inj H
    go_wp2_with (first | ((with_reducible refine gate_callee (f := 6) rfl ?_); refine zqb 15 Tryz.func6 #[] (trystlaw11_awake.calls kj1  t340 _ zG A12.out) (fun w13 hb => ?_); replace BK337 := zb BK337 hb; replace HB := zw hb; (try clear hb)))
    go_ret; exact ⟨zE, zB⟩
   ·replace H := Option.bind_eq_some_iff.mp H; obtain ⟨⟨t341, t342, t345⟩, A140, H⟩ := H; replace H : ((tree_Print.f kj1 t341 t342 t345).bind fun bt348 => (if bt348.2 = 0 then ((tree_Parse.f kj1 bt348.1).bind fun bt350 => (if bt350.2.2.2.2 = 0 then (if bt350.2.2.2.1 = 0 then ((trystlaw11_Ours.f kj1 bt350.1 bt350.2.1 bt350.2.2.1).bind fun bt360 => ((trystlaw11_Same.f kj1 bt360.1 bt360.2.1 bt360.2.2 a0_0 l0_1 l0_2).bind fun t367 => (some t367))) else (some false)) else (some false))) else (some (bt348.1.toList == ([] : List UInt8))))) = some r := H; have A14 := Aside0.mk A140; clear A140; replace H := Option.bind_eq_some_iff.mp H; obtain ⟨⟨t348, t349⟩, A150, H⟩ := H
    replace H : (if t349 = 0 then ((tree_Parse.f kj1 t348).bind fun bt350 => (if bt350.2.2.2.2 = 0 then (if bt350.2.2.2.1 = 0 then ((trystlaw11_Ours.f kj1 bt350.1 bt350.2.1 bt350.2.2.1).bind fun bt360 => ((trystlaw11_Same.f kj1 bt360.1 bt360.2.1 bt360.2.2 a0_0 l0_1 l0_2).bind fun t367 => (some t367))) else (some false)) else (some false))) else (some (t348.toList == ([] : List UInt8)))) = some r := H; have A15 := Aside0.mk A150; clear A150; replace H := zIe H; rcases H with ⟨-, c16b0, c16b1, H⟩ | ⟨c16, c16b0, c16b1, H⟩
    ·replace H := Option.bind_eq_some_iff.mp H; obtain ⟨⟨t350, t351, t354, t357, t358⟩, A170, H⟩ := H; replace H : (if t358 = 0 then (if t357 = 0 then ((trystlaw11_Ours.f kj1 t350 t351 t354).bind fun bt360 => ((trystlaw11_Same.f kj1 bt360.1 bt360.2.1 bt360.2.2 a0_0 l0_1 l0_2).bind fun t367 => (some t367))) else (some false)) else (some false)) = some r := H; have A17 := Aside0.mk A170; clear A170; replace H := zIe H; rcases H with ⟨-, c18b0, c18b1, H⟩ | ⟨c18, c18b0, c18b1, H⟩
     ·replace H := zIe H; rcases H with ⟨-, c19b0, c19b1, H⟩ | ⟨c19, c19b0, c19b1, H⟩
      ·replace H := Option.bind_eq_some_iff.mp H; obtain ⟨⟨t360, t361, t364⟩, A200, H⟩ := H; replace H : ((trystlaw11_Same.f kj1 t360 t361 t364 a0_0 l0_1 l0_2).bind fun t367 => (some t367)) = some r := H; have A20 := Aside0.mk A200; clear A200; replace H := zO H; obtain ⟨t367, A21, H⟩ := H; obtain rfl := Option.some.inj H; obtain ⟨hcz22_0, hcz22_1, hcz22_2, hfz22_0, hfz22_1, hfz22_2⟩ := zk3 BK337
       try go_wp2_with (first | ((with_reducible refine gate_callee (f := 8) rfl ?_); refine goesL_ (some 18) rfl rfl Tryz.func8 (by kernel_rfl) rfl #[.agg #[.string a0_0, .slice A0_1 l0_1.length c0_1, .slice A0_2 l0_2.length c0_2]] rfl zA ?_; (with_reducible refine (trystlaw11_Theirs.calls kj1 a0_0 _ _ l0_1 _ _ l0_2 t341 t342 t345 _ zG ?side1 ?side2 ?side3 ?side4 A14.out).mono ?_); (case side1 => exact Kd.C_below (Kd.C_below HR0_1.out HB.out) zX); (case side2 => exact HC0_1.out); (case side3 => exact Kd.C_below (Kd.C_below HR0_2.out HB.out) zX); (case side4 => exact HC0_2.out); rintro e w23 ⟨v343, v346, rfl, ho0, ho1, hb⟩; refine ⟨_, rfl, ?_⟩; replace HO344 := Aside0.mk (Kd.N_lower (Kd.N_mono (ok' := fun k_ => some k_ ≠ (v346 : Value).ownBlock ∧ k_ ≠ gb337) (Kd.R_N (Kd.R_bound (Kd.R_apart' ho0 (Kd.R_typed ho1) (by decide)))) (fun k_ hk_ => ⟨hk_.1.2, (Kd.freshB (g := gb337) (o := .cells #[.string a0_0, .slice A0_1 l0_1.length c0_1, .slice A0_2 l0_2.length c0_2] 25 (0, 0)) (blk_below BK337.out zX) k_ hk_.2.1)⟩)) (below_size zB)); replace HO347 := Aside0.mk (Kd.N_lower (Kd.N_mono (ok' := fun k_ => some k_ ≠ (v343 : Value).ownBlock ∧ k_ ≠ gb337) (Kd.R_N (Kd.R_bound ho1)) (fun k_ hk_ => ⟨hk_.1, (Kd.freshB (g := gb337) (o := .cells #[.string a0_0, .slice A0_1 l0_1.length c0_1, .slice A0_2 l0_2.length c0_2] 25 (0, 0)) (blk_below BK337.out zX) k_ hk_.2.1)⟩)) (below_size zB)); replace BK337 := zb BK337 hb; replace HB := zw hb; clear hb; clear ho0; (try clear ho1); obtain ⟨Ao24, co24, eo24⟩ := Kd.N_slice HO344.out; subst eo24; obtain ⟨Ao25, co25, eo25⟩ := Kd.N_slice HO347.out; subst eo25) | ((with_reducible refine gate_callee (f := 9) rfl ?_); refine goesL_ (some 19) rfl rfl Tryz.func9 (by kernel_rfl) rfl #[.agg #[.string t341, .slice Ao24 t342.length co24, .slice Ao25 t345.length co25]] rfl zA ?_; (with_reducible refine (tree_Print.calls kj1 t341 _ _ t342 _ _ t345 t348 t349 _ zG ?side1 ?side2 ?side3 ?side4 A15.out).mono ?_); (case side1 => exact Kd.C_below (Kd.N_reads' HO344.out).2.2 zX); (case side2 => exact (Kd.N_reads' HO344.out).2.1); (case side3 => exact Kd.C_below (Kd.N_reads' HO347.out).2.2 zX); (case side4 => exact (Kd.N_reads' HO347.out).2.1); rintro e w26 ⟨rfl, hb⟩; refine ⟨_, rfl, ?_⟩; replace HO344 := Aside0.mk (Kd.N_below (Kd.N_below HO344.out zX) hb); replace HO347 := Aside0.mk (Kd.N_below (Kd.N_below HO347.out zX) hb); replace BK337 := zb BK337 hb; replace HB := zw hb; clear hb) | ((with_reducible refine gate_callee (f := 15) rfl ?_); refine goesL_ (some 28) rfl rfl Tryz.func15 (by kernel_rfl) rfl #[.string t348] rfl zA ?_; (with_reducible refine (tree_Parse.calls kj1 t348 t350 t351 t354 t357 t358 _ zG A17.out).mono ?_); rintro e w27 ⟨v352, v355, rfl, ho0, ho1, hb⟩; refine ⟨_, rfl, ?_⟩; replace HO353 := Aside0.mk (Kd.N_lower (Kd.N_mono (ok' := fun k_ => some k_ ≠ (v355 : Value).ownBlock ∧ some k_ ≠ (.slice Ao24 t342.length co24 : Value).ownBlock ∧ some k_ ≠ (.slice Ao25 t345.length co25 : Value).ownBlock ∧ k_ ≠ gb337) (Kd.R_N (Kd.R_bound (Kd.R_apart' ho0 (Kd.R_typed ho1) (by decide)))) (fun k_ hk_ => ⟨hk_.1.2, (Kd.fresh' (Kd.N_lt (Kd.N_below HO344.out zX)) k_ hk_.2.1), (Kd.fresh' (Kd.N_lt (Kd.N_below HO347.out zX)) k_ hk_.2.1), (Kd.freshB (g := gb337) (o := .cells #[.string a0_0, .slice A0_1 l0_1.length c0_1, .slice A0_2 l0_2.length c0_2] 25 (0, 0)) (blk_below BK337.out zX) k_ hk_.2.1)⟩)) (below_size zB)); replace HO356 := Aside0.mk (Kd.N_lower (Kd.N_mono (ok' := fun k_ => some k_ ≠ (v352 : Value).ownBlock ∧ some k_ ≠ (.slice Ao24 t342.length co24 : Value).ownBlock ∧ some k_ ≠ (.slice Ao25 t345.length co25 : Value).ownBlock ∧ k_ ≠ gb337) (Kd.R_N (Kd.R_bound ho1)) (fun k_ hk_ => ⟨hk_.1, (Kd.fresh' (Kd.N_lt (Kd.N_below HO344.out zX)) k_ hk_.2.1), (Kd.fresh' (Kd.N_lt (Kd.N_below HO347.out zX)) k_ hk_.2.1), (Kd.freshB (g := gb337) (o := .cells #[.string a0_0, .slice A0_1 l0_1.length c0_1, .slice A0_2 l0_2.length c0_2] 25 (0, 0)) (blk_below BK337.out zX) k_ hk_.2.1)⟩)) (below_size zB)); replace HO344 := Aside0.mk (Kd.N_mono (Kd.N_told (Kd.N_told (Kd.N_old (Kd.N_below HO344.out zX) hb) (Kd.N_base (Kd.R_N ho0))) (Kd.N_base (Kd.R_N ho1))) (fun _ h_ => h_.1)); replace HO347 := Aside0.mk (Kd.N_mono (Kd.N_told (Kd.N_told (Kd.N_old (Kd.N_below HO347.out zX) hb) (Kd.N_base (Kd.R_N ho0))) (Kd.N_base (Kd.R_N ho1))) (fun _ h_ => h_.1)); replace BK337 := zb BK337 hb; replace HB := zw hb; clear hb; clear ho0; (try clear ho1)) | ((with_reducible refine gate_dst (N := 5) rfl ?_); refine zbox (N := 5) #[.string (⟨#[]⟩ : ByteArray), .slice none 0 0, .slice none 0 0] 31 (fun gb359 hg w28 hbox hb => ?_); replace HO344 := Aside0.mk (Kd.N_below (Kd.N_elderB (Kd.N_below HO344.out zX) gb359 (Nat.le_of_eq hg.symm)) hb); replace HO347 := Aside0.mk (Kd.N_below (Kd.N_elderB (Kd.N_below HO347.out zX) gb359 (Nat.le_of_eq hg.symm)) hb); replace HO353 := Aside0.mk (Kd.N_below (Kd.N_elderB (Kd.N_below HO353.out zX) gb359 (Nat.le_of_eq hg.symm)) hb); replace HO356 := Aside0.mk (Kd.N_below (Kd.N_elderB (Kd.N_below HO356.out zX) gb359 (Nat.le_of_eq hg.symm)) hb); replace BK359 := Aside0.mk hbox; replace GE359 := zg w hg; replace HB := zw hb; replace NB337_359 := zn BK337 hg; replace NB359_337 := zm BK337 hg; replace BK337 := zb BK337 hb; clear hb hbox hg; have hnb29 := NB359_337.out; have hnc29 := NB337_359.out; obtain ⟨hcz30_0, hcz30_1, hcz30_2, hfz30_0, hfz30_1, hfz30_2⟩ := zk3 BK359; obtain ⟨Ao31, co31, eo31⟩ := Kd.N_slice HO353.out; subst eo31; obtain ⟨Ao32, co32, eo32⟩ := Kd.N_slice HO356.out; subst eo32))
       have n0_ : Aside0 (Kd.N k49 49 (((w28.setCell ⟨gb359, 0, none⟩ (.string t350)).setCell ⟨gb359, 1, none⟩ (.slice Ao31 t351.length co31)).setCell ⟨gb359, 2, none⟩ (.slice Ao32 t354.length co32)) w.heap.size (fun k_ => some k_ ≠ (.slice Ao25 t345.length co25 : Value).ownBlock ∧ some k_ ≠ (.slice Ao31 t351.length co31 : Value).ownBlock ∧ some k_ ≠ (.slice Ao32 t354.length co32 : Value).ownBlock ∧ k_ ≠ gb337 ∧ k_ ≠ gb359) (.slice Ao24 t342.length co24) t342) := ⟨by (with_reducible repeat (first | apply Kd.N_alloc | apply Kd.N_drewN | apply Kd.N_drew)); exact Kd.N_mono (Kd.N_far (p := ⟨gb359, 2, none⟩) (Kd.N_far (p := ⟨gb359, 1, none⟩) (Kd.N_far (p := ⟨gb359, 0, none⟩) (Kd.N_mono HO344.out (fun k_ hk => (⟨hk, hk.2⟩ : _ ∧ k_ ≠ gb359))) (fun _ hk => hk.2) (.string t350)) (fun _ hk => hk.2) (.slice Ao31 t351.length co31)) (fun _ hk => hk.2) (.slice Ao32 t354.length co32)) (fun _ hk => ⟨hk.1.1.1.1.1, ⟨hk.1.1.1.2, ⟨hk.1.1.2, ⟨hk.1.1.1.1.2, hk.1.2⟩⟩⟩⟩)⟩
       have n1_ : Aside0 (Kd.N k31 31 (((w28.setCell ⟨gb359, 0, none⟩ (.string t350)).setCell ⟨gb359, 1, none⟩ (.slice Ao31 t351.length co31)).setCell ⟨gb359, 2, none⟩ (.slice Ao32 t354.length co32)) w.heap.size (fun k_ => some k_ ≠ (.slice Ao24 t342.length co24 : Value).ownBlock ∧ some k_ ≠ (.slice Ao31 t351.length co31 : Value).ownBlock ∧ some k_ ≠ (.slice Ao32 t354.length co32 : Value).ownBlock ∧ k_ ≠ gb337 ∧ k_ ≠ gb359) (.slice Ao25 t345.length co25) t345) := ⟨by (with_reducible repeat (first | apply Kd.N_alloc | apply Kd.N_drewN | apply Kd.N_drew)); exact Kd.N_mono (Kd.N_far (p := ⟨gb359, 2, none⟩) (Kd.N_far (p := ⟨gb359, 1, none⟩) (Kd.N_far (p := ⟨gb359, 0, none⟩) (Kd.N_mono HO347.out (fun k_ hk => (⟨hk, hk.2⟩ : _ ∧ k_ ≠ gb359))) (fun _ hk => hk.2) (.string t350)) (fun _ hk => hk.2) (.slice Ao31 t351.length co31)) (fun _ hk => hk.2) (.slice Ao32 t354.length co32)) (fun _ hk => ⟨hk.1.1.1.1.1, ⟨hk.1.1.1.2, ⟨hk.1.1.2, ⟨hk.1.1.1.1.2, hk.1.2⟩⟩⟩⟩)⟩
       have n2_ : Aside0 (Kd.N k49 49 (((w28.setCell ⟨gb359, 0, none⟩ (.string t350)).setCell ⟨gb359, 1, none⟩ (.slice Ao31 t351.length co31)).setCell ⟨gb359, 2, none⟩ (.slice Ao32 t354.length co32)) w.heap.size (fun k_ => some k_ ≠ (.slice Ao24 t342.length co24 : Value).ownBlock ∧ some k_ ≠ (.slice Ao25 t345.length co25 : Value).ownBlock ∧ some k_ ≠ (.slice Ao32 t354.length co32 : Value).ownBlock ∧ k_ ≠ gb337 ∧ k_ ≠ gb359) (.slice Ao31 t351.length co31) t351) := ⟨by (with_reducible repeat (first | apply Kd.N_alloc | apply Kd.N_drewN | apply Kd.N_drew)); exact Kd.N_mono (Kd.N_far (p := ⟨gb359, 2, none⟩) (Kd.N_far (p := ⟨gb359, 1, none⟩) (Kd.N_far (p := ⟨gb359, 0, none⟩) (Kd.N_mono HO353.out (fun k_ hk => (⟨hk, hk.2⟩ : _ ∧ k_ ≠ gb359))) (fun _ hk => hk.2) (.string t350)) (fun _ hk => hk.2) (.slice Ao31 t351.length co31)) (fun _ hk => hk.2) (.slice Ao32 t354.length co32)) (fun _ hk => ⟨hk.1.1.2.1, ⟨hk.1.1.2.2.1, ⟨hk.1.1.1, ⟨hk.1.1.2.2.2, hk.1.2⟩⟩⟩⟩)⟩
       have n3_ : Aside0 (Kd.N k31 31 (((w28.setCell ⟨gb359, 0, none⟩ (.string t350)).setCell ⟨gb359, 1, none⟩ (.slice Ao31 t351.length co31)).setCell ⟨gb359, 2, none⟩ (.slice Ao32 t354.length co32)) w.heap.size (fun k_ => some k_ ≠ (.slice Ao24 t342.length co24 : Value).ownBlock ∧ some k_ ≠ (.slice Ao25 t345.length co25 : Value).ownBlock ∧ some k_ ≠ (.slice Ao31 t351.length co31 : Value).ownBlock ∧ k_ ≠ gb337 ∧ k_ ≠ gb359) (.slice Ao32 t354.length co32) t354) := ⟨by (with_reducible repeat (first | apply Kd.N_alloc | apply Kd.N_drewN | apply Kd.N_drew)); exact Kd.N_mono (Kd.N_far (p := ⟨gb359, 2, none⟩) (Kd.N_far (p := ⟨gb359, 1, none⟩) (Kd.N_far (p := ⟨gb359, 0, none⟩) (Kd.N_mono HO356.out (fun k_ hk => (⟨hk, hk.2⟩ : _ ∧ k_ ≠ gb359))) (fun _ hk => hk.2) (.string t350)) (fun _ hk => hk.2) (.slice Ao31 t351.length co31)) (fun _ hk => hk.2) (.slice Ao32 t354.length co32)) (fun _ hk => ⟨hk.1.1.2.1, ⟨hk.1.1.2.2.1, ⟨hk.1.1.1, ⟨hk.1.1.2.2.2, hk.1.2⟩⟩⟩⟩)⟩
       have n4_ : Aside0 ((((w28.setCell ⟨gb359, 0, none⟩ (.string t350)).setCell ⟨gb359, 1, none⟩ (.slice Ao31 t351.length co31)).setCell ⟨gb359, 2, none⟩ (.slice Ao32 t354.length co32)).heap[gb337]? = some (.cells #[.string a0_0, .slice A0_1 l0_1.length c0_1, .slice A0_2 l0_2.length c0_2] 25 (0, 0))) := ⟨by (with_reducible repeat (first | refine blk_drewN ?_ _ | refine blk_drew ?_ | refine blk_alloc ?_ _)); refine blk_far ?_ NB337_359.out _; (with_reducible repeat (first | refine blk_drewN ?_ _ | refine blk_drew ?_ | refine blk_alloc ?_ _)); refine blk_far ?_ NB337_359.out _; (with_reducible repeat (first | refine blk_drewN ?_ _ | refine blk_drew ?_ | refine blk_alloc ?_ _)); refine blk_far ?_ NB337_359.out _; (with_reducible repeat (first | refine blk_drewN ?_ _ | refine blk_drew ?_ | refine blk_alloc ?_ _)); exact BK337.out⟩
       have n5_ : Aside0 ((((w28.setCell ⟨gb359, 0, none⟩ (.string t350)).setCell ⟨gb359, 1, none⟩ (.slice Ao31 t351.length co31)).setCell ⟨gb359, 2, none⟩ (.slice Ao32 t354.length co32)).heap[gb359]? = some (.cells #[.string t350, .slice Ao31 t351.length co31, .slice Ao32 t354.length co32] 31 (0, 0))) := ⟨by (with_reducible repeat (first | refine blk_drewN ?_ _ | refine blk_drew ?_ | refine blk_alloc ?_ _)); refine blk_put (cs := #[.string t350, .slice Ao31 t351.length co31, .slice none 0 0]) ?_ 2 _ rfl; (with_reducible repeat (first | refine blk_drewN ?_ _ | refine blk_drew ?_ | refine blk_alloc ?_ _)); refine blk_put (cs := #[.string t350, .slice none 0 0, .slice none 0 0]) ?_ 1 _ rfl; (with_reducible repeat (first | refine blk_drewN ?_ _ | refine blk_drew ?_ | refine blk_alloc ?_ _)); refine blk_put (cs := #[.string (⟨#[]⟩ : ByteArray), .slice none 0 0, .slice none 0 0]) ?_ 0 _ rfl; (with_reducible repeat (first | refine blk_drewN ?_ _ | refine blk_drew ?_ | refine blk_alloc ?_ _)); exact BK359.out⟩
       have n6_ : Aside0 (Below w.heap.size w (((w28.setCell ⟨gb359, 0, none⟩ (.string t350)).setCell ⟨gb359, 1, none⟩ (.slice Ao31 t351.length co31)).setCell ⟨gb359, 2, none⟩ (.slice Ao32 t354.length co32))) := ⟨zB⟩; (try clear HO344); (try clear HO347); (try clear HO353); (try clear HO356); (try clear BK337); (try clear BK359); (try clear HB); generalize (((w28.setCell ⟨gb359, 0, none⟩ (.string t350)).setCell ⟨gb359, 1, none⟩ (.slice Ao31 t351.length co31)).setCell ⟨gb359, 2, none⟩ (.slice Ao32 t354.length co32)) = w33 at n0_ n1_ n2_ n3_ n4_ n5_ n6_ ⊢; have HO344 := n0_; have HO347 := n1_; have HO353 := n2_; have HO356 := n3_; have BK337 := n4_; have BK359 := n5_; have HB := n6_; clear n0_ n1_ n2_ n3_ n4_ n5_ n6_; have n0_ := Aside0.mk (Kd.N_drew HO344.out); have n1_ := Aside0.mk (Kd.N_drew HO347.out); have n2_ := Aside0.mk (Kd.N_drew HO353.out)
       have n3_ := Aside0.mk (Kd.N_drew HO356.out); have n4_ := Aside0.mk (blk_drew BK337.out); have n5_ := Aside0.mk (blk_drew BK359.out); have n6_ := Aside0.mk (below_drew1 HB.out); clear HO344; clear HO347; clear HO353; clear HO356; clear BK337; clear BK359; clear HB; have HO344 := n0_; have HO347 := n1_; have HO353 := n2_; have HO356 := n3_; have BK337 := n4_; have BK359 := n5_; have HB := n6_; clear n0_ n1_ n2_ n3_ n4_ n5_ n6_
       refine start_ (n := 13) (S := fun w' => w'.cell? ⟨gb359, 0, none⟩ = some (.string t350) ∧ w'.cell? ⟨gb359, 1, none⟩ = some (.slice Ao31 t351.length co31) ∧ w'.cell? ⟨gb359, 2, none⟩ = some (.slice Ao32 t354.length co32) ∧ w'.cell? ⟨gb337, 0, none⟩ = some (.string a0_0) ∧ w'.cell? ⟨gb337, 1, none⟩ = some (.slice A0_1 l0_1.length c0_1) ∧ w'.cell? ⟨gb337, 2, none⟩ = some (.slice A0_2 l0_2.length c0_2)) (ds := []) (bs 13 0) (by kernel_rfl) rfl rfl ⟨(blk_cell BK359.out 0).trans rfl, (blk_cell BK359.out 1).trans rfl, (blk_cell BK359.out 2).trans rfl, (blk_cell BK337.out 0).trans rfl, (blk_cell BK337.out 1).trans rfl, (blk_cell BK337.out 2).trans rfl⟩ (fun hHeld => ?_); refine with_tabW trystlaw11_TreeBack.tab7 trystlaw11_TreeBack.bits7 (fun HT_ HW_ => ?_); generalize w33.drew = w34 at HO344 HO347 HO353 HO356 BK337 BK359 HB hHeld ⊢; refine zp 0 32 (bs 13 1) ?_
       refine zp 1 33 (bs 13 3) ?_; refine zp 2 34 (bs 13 7) ?_; refine zp 3 35 (bs 13 15) ?_; refine zp 4 36 (bs 13 31) ?_; refine zp 5 37 (bs 13 63) ?_; refine zp 6 38 (bs 13 127) ?_; refine zt 7 39 (bs 13 255) ?_; refine zt 9 41 (bs 13 767) ?_; refine one_ (i := 8) (N := some 40) (bs 13 1023) rfl rfl (one_of HT_.out (by kernel_rfl)) (by decide) (fun K hK => ?_); refine goes_ Tryz.func17 (by kernel_rfl) rfl #[.agg #[.string t350, .slice Ao31 t351.length co31, .slice Ao32 t354.length co32]] (by rfl) rfl rfl zA ?_
       with_reducible refine (trystlaw11_Ours.calls kj1 t350 (fun k_ => (some k_ ≠ (.slice Ao24 t342.length co24 : Value).ownBlock ∧ (some k_ ≠ (.slice Ao25 t345.length co25 : Value).ownBlock ∧ (some k_ ≠ (.slice Ao32 t354.length co32 : Value).ownBlock ∧ (k_ ≠ gb337 ∧ k_ ≠ gb359))))) _ _ t351 (fun k_ => (some k_ ≠ (.slice Ao24 t342.length co24 : Value).ownBlock ∧ (some k_ ≠ (.slice Ao25 t345.length co25 : Value).ownBlock ∧ (some k_ ≠ (.slice Ao31 t351.length co31 : Value).ownBlock ∧ (k_ ≠ gb337 ∧ k_ ≠ gb359))))) _ _ t354 t360 t361 t364 _ zG ?side1 ?side2 A20.out).mono ?_
       (case side1 => exact Kd.N_V (HO353.out))
       (case side2 => exact Kd.N_V (HO356.out))
       rintro e w35 ⟨v362, v365, rfl, ho0, ho1, hb⟩; refine ⟨_, rfl, ?_⟩; have n0_ := Aside0.mk (Kd.N_mono (Kd.N_told (Kd.N_told (Kd.N_old (Kd.N_below HO344.out zX) hb) (Kd.N_base ho0)) (Kd.N_base ho1)) (fun _ h_ => h_.1)); have n1_ := Aside0.mk (Kd.N_mono (Kd.N_told (Kd.N_told (Kd.N_old (Kd.N_below HO347.out zX) hb) (Kd.N_base ho0)) (Kd.N_base ho1)) (fun _ h_ => h_.1)); have n2_ := Aside0.mk (Kd.N_mono (Kd.N_told (Kd.N_told (Kd.N_old (Kd.N_below HO353.out zX) hb) (Kd.N_base ho0)) (Kd.N_base ho1)) (fun _ h_ => h_.1)); have n3_ := Aside0.mk (Kd.N_mono (Kd.N_told (Kd.N_told (Kd.N_old (Kd.N_below HO356.out zX) hb) (Kd.N_base ho0)) (Kd.N_base ho1)) (fun _ h_ => h_.1))
       have n4_ := Aside0.mk (Kd.N_lower (Kd.N_mono (ok' := fun k_ => some k_ ≠ (v365 : Value).ownBlock ∧ some k_ ≠ (.slice Ao24 t342.length co24 : Value).ownBlock ∧ some k_ ≠ (.slice Ao25 t345.length co25 : Value).ownBlock ∧ k_ ≠ gb337 ∧ k_ ≠ gb359) ho0 (fun k_ hk_ => ⟨hk_.2, Or.elim hk_.1 (fun hs_ => Or.elim hs_ (fun hs_ => hs_.1) (fun hs_ => hs_.1)) (fun hn_ => (Kd.fresh' (Kd.N_lt (Kd.N_below HO344.out zX)) k_ hn_)), Or.elim hk_.1 (fun hs_ => Or.elim hs_ (fun hs_ => hs_.2.1) (fun hs_ => hs_.2.1)) (fun hn_ => (Kd.fresh' (Kd.N_lt (Kd.N_below HO347.out zX)) k_ hn_)), Or.elim hk_.1 (fun hs_ => Or.elim hs_ (fun hs_ => hs_.2.2.2.1) (fun hs_ => hs_.2.2.2.1)) (fun hn_ => (Kd.freshB (g := gb337) (o := .cells #[.string a0_0, .slice A0_1 l0_1.length c0_1, .slice A0_2 l0_2.length c0_2] 25 (0, 0)) (blk_below BK337.out zX) k_ hn_)), Or.elim hk_.1 (fun hs_ => Or.elim hs_ (fun hs_ => hs_.2.2.2.2) (fun hs_ => hs_.2.2.2.2)) (fun hn_ => (Kd.freshB (g := gb359) (o := .cells #[.string t350, .slice Ao31 t351.length co31, .slice Ao32 t354.length co32] 31 (0, 0)) (blk_below BK359.out zX) k_ hn_))⟩)) (below_size zB))
       have n5_ := Aside0.mk (Kd.N_lower (Kd.N_mono (ok' := fun k_ => some k_ ≠ (v362 : Value).ownBlock ∧ some k_ ≠ (.slice Ao24 t342.length co24 : Value).ownBlock ∧ some k_ ≠ (.slice Ao25 t345.length co25 : Value).ownBlock ∧ k_ ≠ gb337 ∧ k_ ≠ gb359) ho1 (fun k_ hk_ => ⟨hk_.2, Or.elim hk_.1 (fun hs_ => Or.elim hs_ (fun hs_ => hs_.1) (fun hs_ => hs_.1)) (fun hn_ => (Kd.fresh' (Kd.N_lt (Kd.N_below HO344.out zX)) k_ hn_)), Or.elim hk_.1 (fun hs_ => Or.elim hs_ (fun hs_ => hs_.2.1) (fun hs_ => hs_.2.1)) (fun hn_ => (Kd.fresh' (Kd.N_lt (Kd.N_below HO347.out zX)) k_ hn_)), Or.elim hk_.1 (fun hs_ => Or.elim hs_ (fun hs_ => hs_.2.2.2.1) (fun hs_ => hs_.2.2.2.1)) (fun hn_ => (Kd.freshB (g := gb337) (o := .cells #[.string a0_0, .slice A0_1 l0_1.length c0_1, .slice A0_2 l0_2.length c0_2] 25 (0, 0)) (blk_below BK337.out zX) k_ hn_)), Or.elim hk_.1 (fun hs_ => Or.elim hs_ (fun hs_ => hs_.2.2.2.2) (fun hs_ => hs_.2.2.2.2)) (fun hn_ => (Kd.freshB (g := gb359) (o := .cells #[.string t350, .slice Ao31 t351.length co31, .slice Ao32 t354.length co32] 31 (0, 0)) (blk_below BK359.out zX) k_ hn_))⟩)) (below_size zB))
       have n6_ := zb BK337 hb; have n7_ := zb BK359 hb; have n8_ := zw hb; clear HO344; clear HO347; clear HO353; clear HO356; clear BK337; clear BK359; clear HB; have HO344 := n0_; have HO347 := n1_; have HO353 := n2_; have HO356 := n3_; have HO363 := n4_; have HO366 := n5_; have BK337 := n6_; have BK359 := n7_; have HB := n8_; clear n0_ n1_ n2_ n3_ n4_ n5_ n6_ n7_ n8_; (try clear hb); (try clear hb2); (try clear hk); (try clear hi); (try clear ho0); (try clear ho1); obtain ⟨Ao36, co36, eo36⟩ := Kd.N_slice HO363.out
       (first | subst eo36 | (injection eo36 with f1_ f2_ f3_; have f4_ := f1_.symm; have f5_ := f3_.symm; clear f1_ f2_ f3_; subst f4_; subst f5_))
       obtain ⟨Ao37, co37, eo37⟩ := Kd.N_slice HO366.out
       (first | subst eo37 | (injection eo37 with f1_ f2_ f3_; have f4_ := f1_.symm; have f5_ := f3_.symm; clear f1_ f2_ f3_; subst f4_; subst f5_))
       refine hK.out _ _ ⟨(blk_cell BK359.out 0).trans rfl, (blk_cell BK359.out 1).trans rfl, (blk_cell BK359.out 2).trans rfl, (blk_cell BK337.out 0).trans rfl, (blk_cell BK337.out 1).trans rfl, (blk_cell BK337.out 2).trans rfl⟩ (fun hHeld => ?_); clear hK K; refine zr ?_; refine one_ (i := 10) (N := some 42) (bs 13 2047) rfl rfl (one_of HT_.out (by kernel_rfl)) (by decide) (fun K hK => ?_); refine goes_ Tryz.func16 (by kernel_rfl) rfl #[.agg #[.string t360, .slice Ao36 t361.length co36, .slice Ao37 t364.length co37], .agg #[.string a0_0, .slice A0_1 l0_1.length c0_1, .slice A0_2 l0_2.length c0_2]] (by rfl) rfl rfl zA ?_
       with_reducible refine (trystlaw11_Same.calls kj1 t360 _ _ t361 _ _ t364 a0_0 _ _ l0_1 _ _ l0_2 t367 _ zG ?side1 ?side2 ?side3 ?side4 ?side5 ?side6 ?side7 ?side8 A21.out).mono ?_
       (case side1 => exact Kd.C_below (Kd.N_reads' HO363.out).2.2 zX)
       (case side2 => exact (Kd.N_reads' HO363.out).2.1)
       (case side3 => exact Kd.C_below (Kd.N_reads' HO366.out).2.2 zX)
       (case side4 => exact (Kd.N_reads' HO366.out).2.1)
       (case side5 => exact Kd.C_below (Kd.C_below HR0_1.out HB.out) zX)
       (case side6 => exact HC0_1.out)
       (case side7 => exact Kd.C_below (Kd.C_below HR0_2.out HB.out) zX)
       (case side8 => exact HC0_2.out)
       rintro e w38 ⟨rfl, hb⟩; refine ⟨_, rfl, ?_⟩; have n0_ := Aside0.mk (Kd.N_below (Kd.N_below HO344.out zX) hb); have n1_ := Aside0.mk (Kd.N_below (Kd.N_below HO347.out zX) hb); have n2_ := Aside0.mk (Kd.N_below (Kd.N_below HO353.out zX) hb); have n3_ := Aside0.mk (Kd.N_below (Kd.N_below HO356.out zX) hb); have n4_ := Aside0.mk (Kd.N_below (Kd.N_below HO363.out zX) hb); have n5_ := Aside0.mk (Kd.N_below (Kd.N_below HO366.out zX) hb); have n6_ := zb BK337 hb; have n7_ := zb BK359 hb; have n8_ := zw hb; clear HO344; clear HO347; clear HO353; clear HO356; clear HO363; clear HO366; clear BK337; clear BK359; clear HB; have HO344 := n0_; have HO347 := n1_; have HO353 := n2_; have HO356 := n3_; have HO363 := n4_; have HO366 := n5_; have BK337 := n6_; have BK359 := n7_; have HB := n8_
       clear n0_ n1_ n2_ n3_ n4_ n5_ n6_ n7_ n8_; (try clear hb); (try clear hb2); (try clear hk); (try clear hi); refine hK.out _ _ ⟨(blk_cell BK359.out 0).trans rfl, (blk_cell BK359.out 1).trans rfl, (blk_cell BK359.out 2).trans rfl, (blk_cell BK337.out 0).trans rfl, (blk_cell BK337.out 1).trans rfl, (blk_cell BK337.out 2).trans rfl⟩ (fun hHeld => ?_); clear hK K; refine zr ?_; refine zp 11 43 (bs 13 4095) ?_; refine zp 12 2 (bs 13 8191) ?_; refine done_ (done_of HT_.out (by kernel_rfl)) ?_
       try go_wp2
       go_ret; exact ⟨zE, zB⟩
      ·obtain rfl := Option.some.inj H; obtain ⟨hcz39_0, hcz39_1, hcz39_2, hfz39_0, hfz39_1, hfz39_2⟩ := zk3 BK337
       try go_wp2_with (first | ((with_reducible refine gate_callee (f := 8) rfl ?_); refine goesL_ (some 18) rfl rfl Tryz.func8 (by kernel_rfl) rfl #[.agg #[.string a0_0, .slice A0_1 l0_1.length c0_1, .slice A0_2 l0_2.length c0_2]] rfl zA ?_; (with_reducible refine (trystlaw11_Theirs.calls kj1 a0_0 _ _ l0_1 _ _ l0_2 t341 t342 t345 _ zG ?side1 ?side2 ?side3 ?side4 A14.out).mono ?_); (case side1 => exact Kd.C_below (Kd.C_below HR0_1.out HB.out) zX); (case side2 => exact HC0_1.out); (case side3 => exact Kd.C_below (Kd.C_below HR0_2.out HB.out) zX); (case side4 => exact HC0_2.out); rintro e w40 ⟨v343, v346, rfl, ho0, ho1, hb⟩; refine ⟨_, rfl, ?_⟩; replace HO344 := Aside0.mk (Kd.N_lower (Kd.N_mono (ok' := fun k_ => some k_ ≠ (v346 : Value).ownBlock ∧ k_ ≠ gb337) (Kd.R_N (Kd.R_bound (Kd.R_apart' ho0 (Kd.R_typed ho1) (by decide)))) (fun k_ hk_ => ⟨hk_.1.2, (Kd.freshB (g := gb337) (o := .cells #[.string a0_0, .slice A0_1 l0_1.length c0_1, .slice A0_2 l0_2.length c0_2] 25 (0, 0)) (blk_below BK337.out zX) k_ hk_.2.1)⟩)) (below_size zB)); replace HO347 := Aside0.mk (Kd.N_lower (Kd.N_mono (ok' := fun k_ => some k_ ≠ (v343 : Value).ownBlock ∧ k_ ≠ gb337) (Kd.R_N (Kd.R_bound ho1)) (fun k_ hk_ => ⟨hk_.1, (Kd.freshB (g := gb337) (o := .cells #[.string a0_0, .slice A0_1 l0_1.length c0_1, .slice A0_2 l0_2.length c0_2] 25 (0, 0)) (blk_below BK337.out zX) k_ hk_.2.1)⟩)) (below_size zB)); replace BK337 := zb BK337 hb; replace HB := zw hb; clear hb; clear ho0; (try clear ho1); obtain ⟨Ao41, co41, eo41⟩ := Kd.N_slice HO344.out; subst eo41; obtain ⟨Ao42, co42, eo42⟩ := Kd.N_slice HO347.out; subst eo42) | ((with_reducible refine gate_callee (f := 9) rfl ?_); refine goesL_ (some 19) rfl rfl Tryz.func9 (by kernel_rfl) rfl #[.agg #[.string t341, .slice Ao41 t342.length co41, .slice Ao42 t345.length co42]] rfl zA ?_; (with_reducible refine (tree_Print.calls kj1 t341 _ _ t342 _ _ t345 t348 t349 _ zG ?side1 ?side2 ?side3 ?side4 A15.out).mono ?_); (case side1 => exact Kd.C_below (Kd.N_reads' HO344.out).2.2 zX); (case side2 => exact (Kd.N_reads' HO344.out).2.1); (case side3 => exact Kd.C_below (Kd.N_reads' HO347.out).2.2 zX); (case side4 => exact (Kd.N_reads' HO347.out).2.1); rintro e w43 ⟨rfl, hb⟩; refine ⟨_, rfl, ?_⟩; replace HO344 := Aside0.mk (Kd.N_below (Kd.N_below HO344.out zX) hb); replace HO347 := Aside0.mk (Kd.N_below (Kd.N_below HO347.out zX) hb); replace BK337 := zb BK337 hb; replace HB := zw hb; clear hb) | ((with_reducible refine gate_callee (f := 15) rfl ?_); refine goesL_ (some 28) rfl rfl Tryz.func15 (by kernel_rfl) rfl #[.string t348] rfl zA ?_; (with_reducible refine (tree_Parse.calls kj1 t348 t350 t351 t354 t357 t358 _ zG A17.out).mono ?_); rintro e w44 ⟨v352, v355, rfl, ho0, ho1, hb⟩; refine ⟨_, rfl, ?_⟩; replace HO353 := Aside0.mk (Kd.N_lower (Kd.N_mono (ok' := fun k_ => some k_ ≠ (v355 : Value).ownBlock ∧ some k_ ≠ (.slice Ao41 t342.length co41 : Value).ownBlock ∧ some k_ ≠ (.slice Ao42 t345.length co42 : Value).ownBlock ∧ k_ ≠ gb337) (Kd.R_N (Kd.R_bound (Kd.R_apart' ho0 (Kd.R_typed ho1) (by decide)))) (fun k_ hk_ => ⟨hk_.1.2, (Kd.fresh' (Kd.N_lt (Kd.N_below HO344.out zX)) k_ hk_.2.1), (Kd.fresh' (Kd.N_lt (Kd.N_below HO347.out zX)) k_ hk_.2.1), (Kd.freshB (g := gb337) (o := .cells #[.string a0_0, .slice A0_1 l0_1.length c0_1, .slice A0_2 l0_2.length c0_2] 25 (0, 0)) (blk_below BK337.out zX) k_ hk_.2.1)⟩)) (below_size zB)); replace HO356 := Aside0.mk (Kd.N_lower (Kd.N_mono (ok' := fun k_ => some k_ ≠ (v352 : Value).ownBlock ∧ some k_ ≠ (.slice Ao41 t342.length co41 : Value).ownBlock ∧ some k_ ≠ (.slice Ao42 t345.length co42 : Value).ownBlock ∧ k_ ≠ gb337) (Kd.R_N (Kd.R_bound ho1)) (fun k_ hk_ => ⟨hk_.1, (Kd.fresh' (Kd.N_lt (Kd.N_below HO344.out zX)) k_ hk_.2.1), (Kd.fresh' (Kd.N_lt (Kd.N_below HO347.out zX)) k_ hk_.2.1), (Kd.freshB (g := gb337) (o := .cells #[.string a0_0, .slice A0_1 l0_1.length c0_1, .slice A0_2 l0_2.length c0_2] 25 (0, 0)) (blk_below BK337.out zX) k_ hk_.2.1)⟩)) (below_size zB)); replace HO344 := Aside0.mk (Kd.N_mono (Kd.N_told (Kd.N_told (Kd.N_old (Kd.N_below HO344.out zX) hb) (Kd.N_base (Kd.R_N ho0))) (Kd.N_base (Kd.R_N ho1))) (fun _ h_ => h_.1)); replace HO347 := Aside0.mk (Kd.N_mono (Kd.N_told (Kd.N_told (Kd.N_old (Kd.N_below HO347.out zX) hb) (Kd.N_base (Kd.R_N ho0))) (Kd.N_base (Kd.R_N ho1))) (fun _ h_ => h_.1)); replace BK337 := zb BK337 hb; replace HB := zw hb; clear hb; clear ho0; (try clear ho1)) | ((with_reducible refine gate_dst (N := 5) rfl ?_); refine zbox (N := 5) #[.string (⟨#[]⟩ : ByteArray), .slice none 0 0, .slice none 0 0] 31 (fun gb359 hg w45 hbox hb => ?_); replace HO344 := Aside0.mk (Kd.N_below (Kd.N_elderB (Kd.N_below HO344.out zX) gb359 (Nat.le_of_eq hg.symm)) hb); replace HO347 := Aside0.mk (Kd.N_below (Kd.N_elderB (Kd.N_below HO347.out zX) gb359 (Nat.le_of_eq hg.symm)) hb); replace HO353 := Aside0.mk (Kd.N_below (Kd.N_elderB (Kd.N_below HO353.out zX) gb359 (Nat.le_of_eq hg.symm)) hb); replace HO356 := Aside0.mk (Kd.N_below (Kd.N_elderB (Kd.N_below HO356.out zX) gb359 (Nat.le_of_eq hg.symm)) hb); replace BK359 := Aside0.mk hbox; replace GE359 := zg w hg; replace HB := zw hb; replace NB337_359 := zn BK337 hg; replace NB359_337 := zm BK337 hg; replace BK337 := zb BK337 hb; clear hb hbox hg; have hnb46 := NB359_337.out; have hnc46 := NB337_359.out; obtain ⟨hcz47_0, hcz47_1, hcz47_2, hfz47_0, hfz47_1, hfz47_2⟩ := zk3 BK359; obtain ⟨Ao48, co48, eo48⟩ := Kd.N_slice HO353.out; subst eo48; obtain ⟨Ao49, co49, eo49⟩ := Kd.N_slice HO356.out; subst eo49))
       have n0_ : Aside0 (Kd.N k49 49 (((w45.setCell ⟨gb359, 0, none⟩ (.string t350)).setCell ⟨gb359, 1, none⟩ (.slice Ao48 t351.length co48)).setCell ⟨gb359, 2, none⟩ (.slice Ao49 t354.length co49)) w.heap.size (fun k_ => some k_ ≠ (.slice Ao42 t345.length co42 : Value).ownBlock ∧ some k_ ≠ (.slice Ao48 t351.length co48 : Value).ownBlock ∧ some k_ ≠ (.slice Ao49 t354.length co49 : Value).ownBlock ∧ k_ ≠ gb337 ∧ k_ ≠ gb359) (.slice Ao41 t342.length co41) t342) := ⟨by (with_reducible repeat (first | apply Kd.N_alloc | apply Kd.N_drewN | apply Kd.N_drew)); exact Kd.N_mono (Kd.N_far (p := ⟨gb359, 2, none⟩) (Kd.N_far (p := ⟨gb359, 1, none⟩) (Kd.N_far (p := ⟨gb359, 0, none⟩) (Kd.N_mono HO344.out (fun k_ hk => (⟨hk, hk.2⟩ : _ ∧ k_ ≠ gb359))) (fun _ hk => hk.2) (.string t350)) (fun _ hk => hk.2) (.slice Ao48 t351.length co48)) (fun _ hk => hk.2) (.slice Ao49 t354.length co49)) (fun _ hk => ⟨hk.1.1.1.1.1, ⟨hk.1.1.1.2, ⟨hk.1.1.2, ⟨hk.1.1.1.1.2, hk.1.2⟩⟩⟩⟩)⟩
       have n1_ : Aside0 (Kd.N k31 31 (((w45.setCell ⟨gb359, 0, none⟩ (.string t350)).setCell ⟨gb359, 1, none⟩ (.slice Ao48 t351.length co48)).setCell ⟨gb359, 2, none⟩ (.slice Ao49 t354.length co49)) w.heap.size (fun k_ => some k_ ≠ (.slice Ao41 t342.length co41 : Value).ownBlock ∧ some k_ ≠ (.slice Ao48 t351.length co48 : Value).ownBlock ∧ some k_ ≠ (.slice Ao49 t354.length co49 : Value).ownBlock ∧ k_ ≠ gb337 ∧ k_ ≠ gb359) (.slice Ao42 t345.length co42) t345) := ⟨by (with_reducible repeat (first | apply Kd.N_alloc | apply Kd.N_drewN | apply Kd.N_drew)); exact Kd.N_mono (Kd.N_far (p := ⟨gb359, 2, none⟩) (Kd.N_far (p := ⟨gb359, 1, none⟩) (Kd.N_far (p := ⟨gb359, 0, none⟩) (Kd.N_mono HO347.out (fun k_ hk => (⟨hk, hk.2⟩ : _ ∧ k_ ≠ gb359))) (fun _ hk => hk.2) (.string t350)) (fun _ hk => hk.2) (.slice Ao48 t351.length co48)) (fun _ hk => hk.2) (.slice Ao49 t354.length co49)) (fun _ hk => ⟨hk.1.1.1.1.1, ⟨hk.1.1.1.2, ⟨hk.1.1.2, ⟨hk.1.1.1.1.2, hk.1.2⟩⟩⟩⟩)⟩
       have n2_ : Aside0 (Kd.N k49 49 (((w45.setCell ⟨gb359, 0, none⟩ (.string t350)).setCell ⟨gb359, 1, none⟩ (.slice Ao48 t351.length co48)).setCell ⟨gb359, 2, none⟩ (.slice Ao49 t354.length co49)) w.heap.size (fun k_ => some k_ ≠ (.slice Ao41 t342.length co41 : Value).ownBlock ∧ some k_ ≠ (.slice Ao42 t345.length co42 : Value).ownBlock ∧ some k_ ≠ (.slice Ao49 t354.length co49 : Value).ownBlock ∧ k_ ≠ gb337 ∧ k_ ≠ gb359) (.slice Ao48 t351.length co48) t351) := ⟨by (with_reducible repeat (first | apply Kd.N_alloc | apply Kd.N_drewN | apply Kd.N_drew)); exact Kd.N_mono (Kd.N_far (p := ⟨gb359, 2, none⟩) (Kd.N_far (p := ⟨gb359, 1, none⟩) (Kd.N_far (p := ⟨gb359, 0, none⟩) (Kd.N_mono HO353.out (fun k_ hk => (⟨hk, hk.2⟩ : _ ∧ k_ ≠ gb359))) (fun _ hk => hk.2) (.string t350)) (fun _ hk => hk.2) (.slice Ao48 t351.length co48)) (fun _ hk => hk.2) (.slice Ao49 t354.length co49)) (fun _ hk => ⟨hk.1.1.2.1, ⟨hk.1.1.2.2.1, ⟨hk.1.1.1, ⟨hk.1.1.2.2.2, hk.1.2⟩⟩⟩⟩)⟩
       have n3_ : Aside0 (Kd.N k31 31 (((w45.setCell ⟨gb359, 0, none⟩ (.string t350)).setCell ⟨gb359, 1, none⟩ (.slice Ao48 t351.length co48)).setCell ⟨gb359, 2, none⟩ (.slice Ao49 t354.length co49)) w.heap.size (fun k_ => some k_ ≠ (.slice Ao41 t342.length co41 : Value).ownBlock ∧ some k_ ≠ (.slice Ao42 t345.length co42 : Value).ownBlock ∧ some k_ ≠ (.slice Ao48 t351.length co48 : Value).ownBlock ∧ k_ ≠ gb337 ∧ k_ ≠ gb359) (.slice Ao49 t354.length co49) t354) := ⟨by (with_reducible repeat (first | apply Kd.N_alloc | apply Kd.N_drewN | apply Kd.N_drew)); exact Kd.N_mono (Kd.N_far (p := ⟨gb359, 2, none⟩) (Kd.N_far (p := ⟨gb359, 1, none⟩) (Kd.N_far (p := ⟨gb359, 0, none⟩) (Kd.N_mono HO356.out (fun k_ hk => (⟨hk, hk.2⟩ : _ ∧ k_ ≠ gb359))) (fun _ hk => hk.2) (.string t350)) (fun _ hk => hk.2) (.slice Ao48 t351.length co48)) (fun _ hk => hk.2) (.slice Ao49 t354.length co49)) (fun _ hk => ⟨hk.1.1.2.1, ⟨hk.1.1.2.2.1, ⟨hk.1.1.1, ⟨hk.1.1.2.2.2, hk.1.2⟩⟩⟩⟩)⟩
       have n4_ : Aside0 ((((w45.setCell ⟨gb359, 0, none⟩ (.string t350)).setCell ⟨gb359, 1, none⟩ (.slice Ao48 t351.length co48)).setCell ⟨gb359, 2, none⟩ (.slice Ao49 t354.length co49)).heap[gb337]? = some (.cells #[.string a0_0, .slice A0_1 l0_1.length c0_1, .slice A0_2 l0_2.length c0_2] 25 (0, 0))) := ⟨by (with_reducible repeat (first | refine blk_drewN ?_ _ | refine blk_drew ?_ | refine blk_alloc ?_ _)); refine blk_far ?_ NB337_359.out _; (with_reducible repeat (first | refine blk_drewN ?_ _ | refine blk_drew ?_ | refine blk_alloc ?_ _)); refine blk_far ?_ NB337_359.out _; (with_reducible repeat (first | refine blk_drewN ?_ _ | refine blk_drew ?_ | refine blk_alloc ?_ _)); refine blk_far ?_ NB337_359.out _; (with_reducible repeat (first | refine blk_drewN ?_ _ | refine blk_drew ?_ | refine blk_alloc ?_ _)); exact BK337.out⟩
       have n5_ : Aside0 ((((w45.setCell ⟨gb359, 0, none⟩ (.string t350)).setCell ⟨gb359, 1, none⟩ (.slice Ao48 t351.length co48)).setCell ⟨gb359, 2, none⟩ (.slice Ao49 t354.length co49)).heap[gb359]? = some (.cells #[.string t350, .slice Ao48 t351.length co48, .slice Ao49 t354.length co49] 31 (0, 0))) := ⟨by (with_reducible repeat (first | refine blk_drewN ?_ _ | refine blk_drew ?_ | refine blk_alloc ?_ _)); refine blk_put (cs := #[.string t350, .slice Ao48 t351.length co48, .slice none 0 0]) ?_ 2 _ rfl; (with_reducible repeat (first | refine blk_drewN ?_ _ | refine blk_drew ?_ | refine blk_alloc ?_ _)); refine blk_put (cs := #[.string t350, .slice none 0 0, .slice none 0 0]) ?_ 1 _ rfl; (with_reducible repeat (first | refine blk_drewN ?_ _ | refine blk_drew ?_ | refine blk_alloc ?_ _)); refine blk_put (cs := #[.string (⟨#[]⟩ : ByteArray), .slice none 0 0, .slice none 0 0]) ?_ 0 _ rfl; (with_reducible repeat (first | refine blk_drewN ?_ _ | refine blk_drew ?_ | refine blk_alloc ?_ _)); exact BK359.out⟩
       have n6_ : Aside0 (Below w.heap.size w (((w45.setCell ⟨gb359, 0, none⟩ (.string t350)).setCell ⟨gb359, 1, none⟩ (.slice Ao48 t351.length co48)).setCell ⟨gb359, 2, none⟩ (.slice Ao49 t354.length co49))) := ⟨zB⟩; (try clear HO344); (try clear HO347); (try clear HO353); (try clear HO356); (try clear BK337); (try clear BK359); (try clear HB); generalize (((w45.setCell ⟨gb359, 0, none⟩ (.string t350)).setCell ⟨gb359, 1, none⟩ (.slice Ao48 t351.length co48)).setCell ⟨gb359, 2, none⟩ (.slice Ao49 t354.length co49)) = w50 at n0_ n1_ n2_ n3_ n4_ n5_ n6_ ⊢; have HO344 := n0_; have HO347 := n1_; have HO353 := n2_; have HO356 := n3_; have BK337 := n4_; have BK359 := n5_; have HB := n6_; clear n0_ n1_ n2_ n3_ n4_ n5_ n6_; have n0_ := Aside0.mk (Kd.N_drew HO344.out); have n1_ := Aside0.mk (Kd.N_drew HO347.out); have n2_ := Aside0.mk (Kd.N_drew HO353.out)
       have n3_ := Aside0.mk (Kd.N_drew HO356.out); have n4_ := Aside0.mk (blk_drew BK337.out); have n5_ := Aside0.mk (blk_drew BK359.out); have n6_ := Aside0.mk (below_drew1 HB.out); clear HO344; clear HO347; clear HO353; clear HO356; clear BK337; clear BK359; clear HB; have HO344 := n0_; have HO347 := n1_; have HO353 := n2_; have HO356 := n3_; have BK337 := n4_; have BK359 := n5_; have HB := n6_; clear n0_ n1_ n2_ n3_ n4_ n5_ n6_; refine start_ (n := 13) (S := fun w' => True) (ds := []) (bs 13 0) (by kernel_rfl) rfl rfl trivial (fun hHeld => ?_); refine with_tabW trystlaw11_TreeBack.tab7 trystlaw11_TreeBack.bits7 (fun HT_ HW_ => ?_); generalize w50.drew = w51 at HO344 HO347 HO353 HO356 BK337 BK359 HB hHeld ⊢; refine zp 0 32 (bs 13 1) ?_; refine zp 1 33 (bs 13 3) ?_; refine zp 2 34 (bs 13 7) ?_; refine zp 3 35 (bs 13 15) ?_; refine zp 4 36 (bs 13 31) ?_
       refine zp 5 37 (bs 13 63) ?_; refine zp 6 38 (bs 13 127) ?_; refine zu 7 39 (bs 13 255) ?_; refine zu 8 40 (bs 13 511) ?_; refine zu 9 41 (bs 13 1023) ?_; refine zu 10 42 (bs 13 2047) ?_; refine zp 11 43 (bs 13 4095) ?_; refine zp 12 2 (bs 13 8191) ?_; refine done_ (done_of HT_.out (by kernel_rfl)) ?_
       try go_wp2
       go_ret; exact ⟨zE, zB⟩
     ·obtain rfl := Option.some.inj H; obtain ⟨hcz52_0, hcz52_1, hcz52_2, hfz52_0, hfz52_1, hfz52_2⟩ := zk3 BK337
      try go_wp2_with (first | ((with_reducible refine gate_callee (f := 8) rfl ?_); refine goesL_ (some 18) rfl rfl Tryz.func8 (by kernel_rfl) rfl #[.agg #[.string a0_0, .slice A0_1 l0_1.length c0_1, .slice A0_2 l0_2.length c0_2]] rfl zA ?_; (with_reducible refine (trystlaw11_Theirs.calls kj1 a0_0 _ _ l0_1 _ _ l0_2 t341 t342 t345 _ zG ?side1 ?side2 ?side3 ?side4 A14.out).mono ?_); (case side1 => exact Kd.C_below (Kd.C_below HR0_1.out HB.out) zX); (case side2 => exact HC0_1.out); (case side3 => exact Kd.C_below (Kd.C_below HR0_2.out HB.out) zX); (case side4 => exact HC0_2.out); rintro e w53 ⟨v343, v346, rfl, ho0, ho1, hb⟩; refine ⟨_, rfl, ?_⟩; replace HO344 := Aside0.mk (Kd.N_lower (Kd.N_mono (ok' := fun k_ => some k_ ≠ (v346 : Value).ownBlock ∧ k_ ≠ gb337) (Kd.R_N (Kd.R_bound (Kd.R_apart' ho0 (Kd.R_typed ho1) (by decide)))) (fun k_ hk_ => ⟨hk_.1.2, (Kd.freshB (g := gb337) (o := .cells #[.string a0_0, .slice A0_1 l0_1.length c0_1, .slice A0_2 l0_2.length c0_2] 25 (0, 0)) (blk_below BK337.out zX) k_ hk_.2.1)⟩)) (below_size zB)); replace HO347 := Aside0.mk (Kd.N_lower (Kd.N_mono (ok' := fun k_ => some k_ ≠ (v343 : Value).ownBlock ∧ k_ ≠ gb337) (Kd.R_N (Kd.R_bound ho1)) (fun k_ hk_ => ⟨hk_.1, (Kd.freshB (g := gb337) (o := .cells #[.string a0_0, .slice A0_1 l0_1.length c0_1, .slice A0_2 l0_2.length c0_2] 25 (0, 0)) (blk_below BK337.out zX) k_ hk_.2.1)⟩)) (below_size zB)); replace BK337 := zb BK337 hb; replace HB := zw hb; clear hb; clear ho0; (try clear ho1); obtain ⟨Ao54, co54, eo54⟩ := Kd.N_slice HO344.out; subst eo54; obtain ⟨Ao55, co55, eo55⟩ := Kd.N_slice HO347.out; subst eo55) | ((with_reducible refine gate_callee (f := 9) rfl ?_); refine goesL_ (some 19) rfl rfl Tryz.func9 (by kernel_rfl) rfl #[.agg #[.string t341, .slice Ao54 t342.length co54, .slice Ao55 t345.length co55]] rfl zA ?_; (with_reducible refine (tree_Print.calls kj1 t341 _ _ t342 _ _ t345 t348 t349 _ zG ?side1 ?side2 ?side3 ?side4 A15.out).mono ?_); (case side1 => exact Kd.C_below (Kd.N_reads' HO344.out).2.2 zX); (case side2 => exact (Kd.N_reads' HO344.out).2.1); (case side3 => exact Kd.C_below (Kd.N_reads' HO347.out).2.2 zX); (case side4 => exact (Kd.N_reads' HO347.out).2.1); rintro e w56 ⟨rfl, hb⟩; refine ⟨_, rfl, ?_⟩; replace HO344 := Aside0.mk (Kd.N_below (Kd.N_below HO344.out zX) hb); replace HO347 := Aside0.mk (Kd.N_below (Kd.N_below HO347.out zX) hb); replace BK337 := zb BK337 hb; replace HB := zw hb; clear hb) | ((with_reducible refine gate_callee (f := 15) rfl ?_); refine goesL_ (some 28) rfl rfl Tryz.func15 (by kernel_rfl) rfl #[.string t348] rfl zA ?_; (with_reducible refine (tree_Parse.calls kj1 t348 t350 t351 t354 t357 t358 _ zG A17.out).mono ?_); rintro e w57 ⟨v352, v355, rfl, ho0, ho1, hb⟩; refine ⟨_, rfl, ?_⟩; replace HO353 := Aside0.mk (Kd.N_lower (Kd.N_mono (ok' := fun k_ => some k_ ≠ (v355 : Value).ownBlock ∧ some k_ ≠ (.slice Ao54 t342.length co54 : Value).ownBlock ∧ some k_ ≠ (.slice Ao55 t345.length co55 : Value).ownBlock ∧ k_ ≠ gb337) (Kd.R_N (Kd.R_bound (Kd.R_apart' ho0 (Kd.R_typed ho1) (by decide)))) (fun k_ hk_ => ⟨hk_.1.2, (Kd.fresh' (Kd.N_lt (Kd.N_below HO344.out zX)) k_ hk_.2.1), (Kd.fresh' (Kd.N_lt (Kd.N_below HO347.out zX)) k_ hk_.2.1), (Kd.freshB (g := gb337) (o := .cells #[.string a0_0, .slice A0_1 l0_1.length c0_1, .slice A0_2 l0_2.length c0_2] 25 (0, 0)) (blk_below BK337.out zX) k_ hk_.2.1)⟩)) (below_size zB)); replace HO356 := Aside0.mk (Kd.N_lower (Kd.N_mono (ok' := fun k_ => some k_ ≠ (v352 : Value).ownBlock ∧ some k_ ≠ (.slice Ao54 t342.length co54 : Value).ownBlock ∧ some k_ ≠ (.slice Ao55 t345.length co55 : Value).ownBlock ∧ k_ ≠ gb337) (Kd.R_N (Kd.R_bound ho1)) (fun k_ hk_ => ⟨hk_.1, (Kd.fresh' (Kd.N_lt (Kd.N_below HO344.out zX)) k_ hk_.2.1), (Kd.fresh' (Kd.N_lt (Kd.N_below HO347.out zX)) k_ hk_.2.1), (Kd.freshB (g := gb337) (o := .cells #[.string a0_0, .slice A0_1 l0_1.length c0_1, .slice A0_2 l0_2.length c0_2] 25 (0, 0)) (blk_below BK337.out zX) k_ hk_.2.1)⟩)) (below_size zB)); replace HO344 := Aside0.mk (Kd.N_mono (Kd.N_told (Kd.N_told (Kd.N_old (Kd.N_below HO344.out zX) hb) (Kd.N_base (Kd.R_N ho0))) (Kd.N_base (Kd.R_N ho1))) (fun _ h_ => h_.1)); replace HO347 := Aside0.mk (Kd.N_mono (Kd.N_told (Kd.N_told (Kd.N_old (Kd.N_below HO347.out zX) hb) (Kd.N_base (Kd.R_N ho0))) (Kd.N_base (Kd.R_N ho1))) (fun _ h_ => h_.1)); replace BK337 := zb BK337 hb; replace HB := zw hb; clear hb; clear ho0; (try clear ho1)) | ((with_reducible refine gate_dst (N := 5) rfl ?_); refine zbox (N := 5) #[.string (⟨#[]⟩ : ByteArray), .slice none 0 0, .slice none 0 0] 31 (fun gb359 hg w58 hbox hb => ?_); replace HO344 := Aside0.mk (Kd.N_below (Kd.N_elderB (Kd.N_below HO344.out zX) gb359 (Nat.le_of_eq hg.symm)) hb); replace HO347 := Aside0.mk (Kd.N_below (Kd.N_elderB (Kd.N_below HO347.out zX) gb359 (Nat.le_of_eq hg.symm)) hb); replace HO353 := Aside0.mk (Kd.N_below (Kd.N_elderB (Kd.N_below HO353.out zX) gb359 (Nat.le_of_eq hg.symm)) hb); replace HO356 := Aside0.mk (Kd.N_below (Kd.N_elderB (Kd.N_below HO356.out zX) gb359 (Nat.le_of_eq hg.symm)) hb); replace BK359 := Aside0.mk hbox; replace GE359 := zg w hg; replace HB := zw hb; replace NB337_359 := zn BK337 hg; replace NB359_337 := zm BK337 hg; replace BK337 := zb BK337 hb; clear hb hbox hg; have hnb59 := NB359_337.out; have hnc59 := NB337_359.out; obtain ⟨hcz60_0, hcz60_1, hcz60_2, hfz60_0, hfz60_1, hfz60_2⟩ := zk3 BK359; obtain ⟨Ao61, co61, eo61⟩ := Kd.N_slice HO353.out; subst eo61; obtain ⟨Ao62, co62, eo62⟩ := Kd.N_slice HO356.out; subst eo62))
      have n0_ : Aside0 (Kd.N k49 49 (((w58.setCell ⟨gb359, 0, none⟩ (.string t350)).setCell ⟨gb359, 1, none⟩ (.slice Ao61 t351.length co61)).setCell ⟨gb359, 2, none⟩ (.slice Ao62 t354.length co62)) w.heap.size (fun k_ => some k_ ≠ (.slice Ao55 t345.length co55 : Value).ownBlock ∧ some k_ ≠ (.slice Ao61 t351.length co61 : Value).ownBlock ∧ some k_ ≠ (.slice Ao62 t354.length co62 : Value).ownBlock ∧ k_ ≠ gb337 ∧ k_ ≠ gb359) (.slice Ao54 t342.length co54) t342) := ⟨by (with_reducible repeat (first | apply Kd.N_alloc | apply Kd.N_drewN | apply Kd.N_drew)); exact Kd.N_mono (Kd.N_far (p := ⟨gb359, 2, none⟩) (Kd.N_far (p := ⟨gb359, 1, none⟩) (Kd.N_far (p := ⟨gb359, 0, none⟩) (Kd.N_mono HO344.out (fun k_ hk => (⟨hk, hk.2⟩ : _ ∧ k_ ≠ gb359))) (fun _ hk => hk.2) (.string t350)) (fun _ hk => hk.2) (.slice Ao61 t351.length co61)) (fun _ hk => hk.2) (.slice Ao62 t354.length co62)) (fun _ hk => ⟨hk.1.1.1.1.1, ⟨hk.1.1.1.2, ⟨hk.1.1.2, ⟨hk.1.1.1.1.2, hk.1.2⟩⟩⟩⟩)⟩
      have n1_ : Aside0 (Kd.N k31 31 (((w58.setCell ⟨gb359, 0, none⟩ (.string t350)).setCell ⟨gb359, 1, none⟩ (.slice Ao61 t351.length co61)).setCell ⟨gb359, 2, none⟩ (.slice Ao62 t354.length co62)) w.heap.size (fun k_ => some k_ ≠ (.slice Ao54 t342.length co54 : Value).ownBlock ∧ some k_ ≠ (.slice Ao61 t351.length co61 : Value).ownBlock ∧ some k_ ≠ (.slice Ao62 t354.length co62 : Value).ownBlock ∧ k_ ≠ gb337 ∧ k_ ≠ gb359) (.slice Ao55 t345.length co55) t345) := ⟨by (with_reducible repeat (first | apply Kd.N_alloc | apply Kd.N_drewN | apply Kd.N_drew)); exact Kd.N_mono (Kd.N_far (p := ⟨gb359, 2, none⟩) (Kd.N_far (p := ⟨gb359, 1, none⟩) (Kd.N_far (p := ⟨gb359, 0, none⟩) (Kd.N_mono HO347.out (fun k_ hk => (⟨hk, hk.2⟩ : _ ∧ k_ ≠ gb359))) (fun _ hk => hk.2) (.string t350)) (fun _ hk => hk.2) (.slice Ao61 t351.length co61)) (fun _ hk => hk.2) (.slice Ao62 t354.length co62)) (fun _ hk => ⟨hk.1.1.1.1.1, ⟨hk.1.1.1.2, ⟨hk.1.1.2, ⟨hk.1.1.1.1.2, hk.1.2⟩⟩⟩⟩)⟩
      have n2_ : Aside0 (Kd.N k49 49 (((w58.setCell ⟨gb359, 0, none⟩ (.string t350)).setCell ⟨gb359, 1, none⟩ (.slice Ao61 t351.length co61)).setCell ⟨gb359, 2, none⟩ (.slice Ao62 t354.length co62)) w.heap.size (fun k_ => some k_ ≠ (.slice Ao54 t342.length co54 : Value).ownBlock ∧ some k_ ≠ (.slice Ao55 t345.length co55 : Value).ownBlock ∧ some k_ ≠ (.slice Ao62 t354.length co62 : Value).ownBlock ∧ k_ ≠ gb337 ∧ k_ ≠ gb359) (.slice Ao61 t351.length co61) t351) := ⟨by (with_reducible repeat (first | apply Kd.N_alloc | apply Kd.N_drewN | apply Kd.N_drew)); exact Kd.N_mono (Kd.N_far (p := ⟨gb359, 2, none⟩) (Kd.N_far (p := ⟨gb359, 1, none⟩) (Kd.N_far (p := ⟨gb359, 0, none⟩) (Kd.N_mono HO353.out (fun k_ hk => (⟨hk, hk.2⟩ : _ ∧ k_ ≠ gb359))) (fun _ hk => hk.2) (.string t350)) (fun _ hk => hk.2) (.slice Ao61 t351.length co61)) (fun _ hk => hk.2) (.slice Ao62 t354.length co62)) (fun _ hk => ⟨hk.1.1.2.1, ⟨hk.1.1.2.2.1, ⟨hk.1.1.1, ⟨hk.1.1.2.2.2, hk.1.2⟩⟩⟩⟩)⟩
      have n3_ : Aside0 (Kd.N k31 31 (((w58.setCell ⟨gb359, 0, none⟩ (.string t350)).setCell ⟨gb359, 1, none⟩ (.slice Ao61 t351.length co61)).setCell ⟨gb359, 2, none⟩ (.slice Ao62 t354.length co62)) w.heap.size (fun k_ => some k_ ≠ (.slice Ao54 t342.length co54 : Value).ownBlock ∧ some k_ ≠ (.slice Ao55 t345.length co55 : Value).ownBlock ∧ some k_ ≠ (.slice Ao61 t351.length co61 : Value).ownBlock ∧ k_ ≠ gb337 ∧ k_ ≠ gb359) (.slice Ao62 t354.length co62) t354) := ⟨by (with_reducible repeat (first | apply Kd.N_alloc | apply Kd.N_drewN | apply Kd.N_drew)); exact Kd.N_mono (Kd.N_far (p := ⟨gb359, 2, none⟩) (Kd.N_far (p := ⟨gb359, 1, none⟩) (Kd.N_far (p := ⟨gb359, 0, none⟩) (Kd.N_mono HO356.out (fun k_ hk => (⟨hk, hk.2⟩ : _ ∧ k_ ≠ gb359))) (fun _ hk => hk.2) (.string t350)) (fun _ hk => hk.2) (.slice Ao61 t351.length co61)) (fun _ hk => hk.2) (.slice Ao62 t354.length co62)) (fun _ hk => ⟨hk.1.1.2.1, ⟨hk.1.1.2.2.1, ⟨hk.1.1.1, ⟨hk.1.1.2.2.2, hk.1.2⟩⟩⟩⟩)⟩
      have n4_ : Aside0 ((((w58.setCell ⟨gb359, 0, none⟩ (.string t350)).setCell ⟨gb359, 1, none⟩ (.slice Ao61 t351.length co61)).setCell ⟨gb359, 2, none⟩ (.slice Ao62 t354.length co62)).heap[gb337]? = some (.cells #[.string a0_0, .slice A0_1 l0_1.length c0_1, .slice A0_2 l0_2.length c0_2] 25 (0, 0))) := ⟨by (with_reducible repeat (first | refine blk_drewN ?_ _ | refine blk_drew ?_ | refine blk_alloc ?_ _)); refine blk_far ?_ NB337_359.out _; (with_reducible repeat (first | refine blk_drewN ?_ _ | refine blk_drew ?_ | refine blk_alloc ?_ _)); refine blk_far ?_ NB337_359.out _; (with_reducible repeat (first | refine blk_drewN ?_ _ | refine blk_drew ?_ | refine blk_alloc ?_ _)); refine blk_far ?_ NB337_359.out _; (with_reducible repeat (first | refine blk_drewN ?_ _ | refine blk_drew ?_ | refine blk_alloc ?_ _)); exact BK337.out⟩
      have n5_ : Aside0 ((((w58.setCell ⟨gb359, 0, none⟩ (.string t350)).setCell ⟨gb359, 1, none⟩ (.slice Ao61 t351.length co61)).setCell ⟨gb359, 2, none⟩ (.slice Ao62 t354.length co62)).heap[gb359]? = some (.cells #[.string t350, .slice Ao61 t351.length co61, .slice Ao62 t354.length co62] 31 (0, 0))) := ⟨by (with_reducible repeat (first | refine blk_drewN ?_ _ | refine blk_drew ?_ | refine blk_alloc ?_ _)); refine blk_put (cs := #[.string t350, .slice Ao61 t351.length co61, .slice none 0 0]) ?_ 2 _ rfl; (with_reducible repeat (first | refine blk_drewN ?_ _ | refine blk_drew ?_ | refine blk_alloc ?_ _)); refine blk_put (cs := #[.string t350, .slice none 0 0, .slice none 0 0]) ?_ 1 _ rfl; (with_reducible repeat (first | refine blk_drewN ?_ _ | refine blk_drew ?_ | refine blk_alloc ?_ _)); refine blk_put (cs := #[.string (⟨#[]⟩ : ByteArray), .slice none 0 0, .slice none 0 0]) ?_ 0 _ rfl; (with_reducible repeat (first | refine blk_drewN ?_ _ | refine blk_drew ?_ | refine blk_alloc ?_ _)); exact BK359.out⟩
      have n6_ : Aside0 (Below w.heap.size w (((w58.setCell ⟨gb359, 0, none⟩ (.string t350)).setCell ⟨gb359, 1, none⟩ (.slice Ao61 t351.length co61)).setCell ⟨gb359, 2, none⟩ (.slice Ao62 t354.length co62))) := ⟨zB⟩; (try clear HO344); (try clear HO347); (try clear HO353); (try clear HO356); (try clear BK337); (try clear BK359); (try clear HB); generalize (((w58.setCell ⟨gb359, 0, none⟩ (.string t350)).setCell ⟨gb359, 1, none⟩ (.slice Ao61 t351.length co61)).setCell ⟨gb359, 2, none⟩ (.slice Ao62 t354.length co62)) = w63 at n0_ n1_ n2_ n3_ n4_ n5_ n6_ ⊢; have HO344 := n0_; have HO347 := n1_; have HO353 := n2_; have HO356 := n3_; have BK337 := n4_; have BK359 := n5_; have HB := n6_; clear n0_ n1_ n2_ n3_ n4_ n5_ n6_; have n0_ := Aside0.mk (Kd.N_drew HO344.out); have n1_ := Aside0.mk (Kd.N_drew HO347.out); have n2_ := Aside0.mk (Kd.N_drew HO353.out)
      have n3_ := Aside0.mk (Kd.N_drew HO356.out); have n4_ := Aside0.mk (blk_drew BK337.out); have n5_ := Aside0.mk (blk_drew BK359.out); have n6_ := Aside0.mk (below_drew1 HB.out); clear HO344; clear HO347; clear HO353; clear HO356; clear BK337; clear BK359; clear HB; have HO344 := n0_; have HO347 := n1_; have HO353 := n2_; have HO356 := n3_; have BK337 := n4_; have BK359 := n5_; have HB := n6_; clear n0_ n1_ n2_ n3_ n4_ n5_ n6_; refine start_ (n := 13) (S := fun w' => True) (ds := []) (bs 13 0) (by kernel_rfl) rfl rfl trivial (fun hHeld => ?_); refine with_tabW trystlaw11_TreeBack.tab7 trystlaw11_TreeBack.bits7 (fun HT_ HW_ => ?_); generalize w63.drew = w64 at HO344 HO347 HO353 HO356 BK337 BK359 HB hHeld ⊢; refine zp 0 32 (bs 13 1) ?_; refine zp 1 33 (bs 13 3) ?_; refine zp 2 34 (bs 13 7) ?_; refine zu 3 35 (bs 13 15) ?_; refine zu 4 36 (bs 13 31) ?_; refine zp 5 37 (bs 13 63) ?_
      refine zp 6 38 (bs 13 127) ?_; refine zu 7 39 (bs 13 255) ?_; refine zu 8 40 (bs 13 511) ?_; refine zu 9 41 (bs 13 1023) ?_; refine zu 10 42 (bs 13 2047) ?_; refine zp 11 43 (bs 13 4095) ?_; refine zp 12 2 (bs 13 8191) ?_; refine done_ (done_of HT_.out (by kernel_rfl)) ?_
      try go_wp2
      go_ret; exact ⟨zE, zB⟩
    ·obtain rfl := Option.some.inj H; obtain ⟨hcz65_0, hcz65_1, hcz65_2, hfz65_0, hfz65_1, hfz65_2⟩ := zk3 BK337
     go_wp2_with (first | ((with_reducible refine gate_callee (f := 8) rfl ?_); refine goesL_ (some 18) rfl rfl Tryz.func8 (by kernel_rfl) rfl #[.agg #[.string a0_0, .slice A0_1 l0_1.length c0_1, .slice A0_2 l0_2.length c0_2]] rfl zA ?_; (with_reducible refine (trystlaw11_Theirs.calls kj1 a0_0 _ _ l0_1 _ _ l0_2 t341 t342 t345 _ zG ?side1 ?side2 ?side3 ?side4 A14.out).mono ?_); (case side1 => exact Kd.C_below (Kd.C_below HR0_1.out HB.out) zX); (case side2 => exact HC0_1.out); (case side3 => exact Kd.C_below (Kd.C_below HR0_2.out HB.out) zX); (case side4 => exact HC0_2.out); rintro e w66 ⟨v343, v346, rfl, ho0, ho1, hb⟩; refine ⟨_, rfl, ?_⟩; replace HO344 := Aside0.mk (Kd.N_lower (Kd.N_mono (ok' := fun k_ => some k_ ≠ (v346 : Value).ownBlock ∧ k_ ≠ gb337) (Kd.R_N (Kd.R_bound (Kd.R_apart' ho0 (Kd.R_typed ho1) (by decide)))) (fun k_ hk_ => ⟨hk_.1.2, (Kd.freshB (g := gb337) (o := .cells #[.string a0_0, .slice A0_1 l0_1.length c0_1, .slice A0_2 l0_2.length c0_2] 25 (0, 0)) (blk_below BK337.out zX) k_ hk_.2.1)⟩)) (below_size zB)); replace HO347 := Aside0.mk (Kd.N_lower (Kd.N_mono (ok' := fun k_ => some k_ ≠ (v343 : Value).ownBlock ∧ k_ ≠ gb337) (Kd.R_N (Kd.R_bound ho1)) (fun k_ hk_ => ⟨hk_.1, (Kd.freshB (g := gb337) (o := .cells #[.string a0_0, .slice A0_1 l0_1.length c0_1, .slice A0_2 l0_2.length c0_2] 25 (0, 0)) (blk_below BK337.out zX) k_ hk_.2.1)⟩)) (below_size zB)); replace BK337 := zb BK337 hb; replace HB := zw hb; clear hb; clear ho0; (try clear ho1); obtain ⟨Ao67, co67, eo67⟩ := Kd.N_slice HO344.out; subst eo67; obtain ⟨Ao68, co68, eo68⟩ := Kd.N_slice HO347.out; subst eo68) | ((with_reducible refine gate_callee (f := 9) rfl ?_); refine goesL_ (some 19) rfl rfl Tryz.func9 (by kernel_rfl) rfl #[.agg #[.string t341, .slice Ao67 t342.length co67, .slice Ao68 t345.length co68]] rfl zA ?_; (with_reducible refine (tree_Print.calls kj1 t341 _ _ t342 _ _ t345 t348 t349 _ zG ?side1 ?side2 ?side3 ?side4 A15.out).mono ?_); (case side1 => exact Kd.C_below (Kd.N_reads' HO344.out).2.2 zX); (case side2 => exact (Kd.N_reads' HO344.out).2.1); (case side3 => exact Kd.C_below (Kd.N_reads' HO347.out).2.2 zX); (case side4 => exact (Kd.N_reads' HO347.out).2.1); rintro e w69 ⟨rfl, hb⟩; refine ⟨_, rfl, ?_⟩; replace HO344 := Aside0.mk (Kd.N_below (Kd.N_below HO344.out zX) hb); replace HO347 := Aside0.mk (Kd.N_below (Kd.N_below HO347.out zX) hb); replace BK337 := zb BK337 hb; replace HB := zw hb; clear hb))
     go_ret; exact ⟨zE, zB⟩
end Go.Proofs.YtdojmdbaiddkgaaGreatDoor.Print
end
section
set_option linter.unusedVariables false
set_option linter.unusedSimpArgs false
set_option linter.unusedSectionVars false
namespace Go.Proofs.YtdojmdbaiddkgaaGreatDoor.Pure
open Go.RowKit Go.Proofs.YtdojmdbaiddkgaaGreatDoor.Print Go.Proofs.YtdojmdbaiddkgaaGreatDoorW.PrintWords Go.Proofs.YtdojmdbaiddkgaaGreatDoorW.PrintLast Go.Proofs.YtdojmdbaiddkgaaGreatDoorW.PrintMore
theorem cnts_nL : ∀ (K : List RT) (a : Int), 0 ≤ a → (∀ t ∈ K, cnt t = (nL t : Int)) → a + (nLs K : Int) ≤ 1000000 → cnts K a = a + (nLs K : Int)
  | [], a, _, _, _ => by simp only [cnts, nLs]; omega
  | t :: r, a, ha, h, hl => by
    simp only [cnts, nLs] at hl ⊢
    rw [h t (by simp)]
    have e : wrap64 (a + (nL t : Int)) = a + (nL t : Int) := by unfold wrap64; omega
    rw [e, cnts_nL r _ (by omega) (fun x hx => h x (by simp [hx])) (by omega)]
    omega
theorem cnt_nL : ∀ (N : Nat) (t : RT), SizeOf.sizeOf t < N → nL t ≤ 1000000 → cnt t = (nL t : Int)
  | 0, t, h, _ => by omega
  | N + 1, t, h, hl => by
    rw [nL_f] at hl
    have e : wrap64 (2 + (t.f1.length : Int)) = 2 + (t.f1.length : Int) := by unfold wrap64; omega
    rw [cnt_f, e, cnts_nL t.f2 _ (by omega) (fun x hx => cnt_nL N x (by have := kid_lt hx; omega) (by have := nLs_mem _ x hx; omega)) (by omega), nL_f]
    omega
theorem lnT_valid : ∀ (N : Nat) (t : RT), SizeOf.sizeOf t < N → ∀ d, okT d t = true → (lnT t).2 = 0 → ∀ x ∈ (lnT t).1, Lib.validD x.data.toList = true
  | 0, t, h => by omega
  | N + 1, t, h => by
    intro d hok h0 x hx
    obtain ⟨o1, o2, o3, o4⟩ := okT_of hok
    obtain ⟨e, hl, hk⟩ := lnT_ok t h0
    rw [e] at hx
    rcases List.mem_cons.1 hx with rfl | hx
    · rw [begT_line]
      exact line_valid (form_bound _ _ tgB_name o2)
    rcases List.mem_append.1 hx with hx | hx
    · obtain ⟨y, hy, rfl⟩ := List.mem_map.1 hx
      have hf := okL_of (o3 y hy)
      unfold lnB
      rw [(print_ok hf (hl y hy)).1]
      exact line_valid hf
    rcases List.mem_append.1 hx with hx | hx
    · obtain ⟨y, hy, hx⟩ := List.mem_flatMap.1 hx
      exact lnT_valid N y (by have := kid_lt hy; omega) (d - 1) (o4 y hy) (hk y hy) x hx
    · rw [List.mem_singleton.1 hx, endT_line]
      exact line_valid (form_bound _ _ tgE_name o2)
/-- What is written is read. -/
theorem parse_text (t : RT) (hf : formT t = true) (hn : nL t ≤ 50000) (h0 : (lnT t).2 = 0) (hfo : (foldA (lnT t).1).2 = 0) : Ev (fun k => tree_Parse.f k (foldA (lnT t).1).1) (t.f0, t.f1.map toL, t.f2.map toT, 0, 0) := by
  have hf2 : okT 4 t = true ∧ cnt t ≤ 300 := by
    unfold formT at hf
    rw [Bool.and_eq_true, decide_eq_true_eq] at hf
    exact hf
  have hnl : nL t ≤ 300 := by
    have := cnt_nL _ t (Nat.lt_succ_self _) (by omega)
    omega
  have hnum := lnT_num _ t (Nat.lt_succ_self _) h0
  have hv := lnT_valid _ t (Nat.lt_succ_self _) 4 hf2.1 h0
  have hrun := read_tree _ t (Nat.lt_succ_self _) 4 hf2.1 h0 [] 0 [] (t.f0, t.f1.map toL, t.f2.map toT, 0, 0) (by simp) (by omega) (by
    show Ev (fun k => some (lastR _ (.dn (toT t)))) _
    rw [toT_f]
    exact Ev.now _)
  rw [List.append_nil] at hrun
  obtain ⟨X, hX⟩ : ∃ X, X = (lnT t).1 := ⟨_, rfl⟩
  rw [← hX] at hfo hnum hv hrun ⊢
  by_cases hb : X.any badF = true
  · unfold foldA at hfo
    rw [if_pos hb] at hfo
    exact absurd hfo (show ¬ (5 : Int) = 0 by decide)
  have hg : ∀ x ∈ X, Good x := fun x hx => good_of x (by
    rw [Bool.not_eq_true] at hb
    have := List.any_eq_false.1 hb x hx
    simpa using this)
  have hfa : foldA X = foldR X [] := by unfold foldA; rw [if_neg hb]
  rw [hfa] at hfo ⊢
  obtain ⟨h1, h2, h3⟩ := foldR_ok X [] hfo
  rw [List.nil_append] at h1 h2
  rw [h1]
  have hsz := ba_size (textT X)
  refine Ev.bind (unfold_ev _ (by omega)) ?_
  rw [back_unf X hg h2 h3 hv]
  refine Ev.congr (fun k => ?_) hrun
  show (if (0 : Int) = 0 then (if X.length ≤ 1000000 then tree_Parse.l0 k X 0 (.op []) else none) else _) = _
  rw [if_pos rfl, if_pos (by omega)]
theorem foldA_no (X : List ByteArray) (h : (foldA X).2 ≠ 0) : (foldA X).1 = ⟨#[]⟩ := by
  unfold foldA at h ⊢
  by_cases hb : X.any badF = true
  · rw [if_pos hb]
  · rw [if_neg hb] at h ⊢; exact foldR_no X [] h
theorem prT_no (t : RT) (h : (prT t).2 ≠ 0) : (prT t).1 = ⟨#[]⟩ := by
  unfold prT at h ⊢
  by_cases hf : formT t = true
  · rw [if_pos hf] at h ⊢
    by_cases h0 : (lnT t).2 = 0
    · rw [if_pos h0] at h ⊢; exact foldA_no _ h
    · rw [if_neg h0]
  · rw [if_neg hf]
theorem prT_yes (t : RT) (h : (prT t).2 = 0) : formT t = true ∧ (lnT t).2 = 0 ∧ (foldA (lnT t).1).2 = 0 ∧ prT t = foldA (lnT t).1 := by
  unfold prT at h ⊢
  by_cases hf : formT t = true
  · rw [if_pos hf] at h ⊢
    by_cases h0 : (lnT t).2 = 0
    · rw [if_pos h0] at h ⊢; exact ⟨hf, h0, h, rfl⟩
    · rw [if_neg h0] at h; exact absurd h h0
  · rw [if_neg hf] at h; exact absurd h (show ¬ (1 : Int) = 0 by decide)
/-- What is written of a tree is read as the tree. -/
theorem parse_print (t : RT) (hg : formT t = true → goodT t ∧ nL t ≤ 50000) (h : (prT t).2 = 0) : Ev (fun k => tree_Parse.f k (prT t).1) (t.f0, t.f1.map toL, t.f2.map toT, 0, 0) := by
  obtain ⟨h1, h2, h3, h4⟩ := prT_yes t h
  rw [h4]
  exact parse_text t h1 (hg h1).2 h2 h3
theorem rt_eta (t : RT) : (⟨t.f0, t.f1, t.f2⟩ : RT) = t := by cases t; rfl
theorem ours_l1 (nm : ByteArray) (l : List PL) (ks : List RT) (ls : List RL) (hk : ks.length < 2199023255552) (ih : ∀ t ∈ ks, Ev (fun k => trystlaw11_Ours.f k t.f0 (t.f1.map toL) (t.f2.map toT)) (t.f0, t.f1, t.f2)) :
    ∀ (d i : Nat) (acc : List RT), i + d = ks.length → acc.length = i → Ev (fun k => trystlaw11_Ours.l1 k (ks.length : Int) (i : Int) nm l (ks.map toT) nm ls acc) (nm, ls, acc ++ ks.drop i) := by
  intro d
  induction d with
  | zero =>
    intro i acc hi ha
    rw [List.drop_eq_nil_of_le (by omega), List.append_nil]
    exact Ev.step (f := fun _ => some (nm, ls, acc)) (fun k => by simp only [trystlaw11_Ours.l1]; rw [if_neg (by omega)]) (Ev.now _)
  | succ d ihd =>
    intro i acc hi ha
    have hil : i < ks.length := by omega
    have h1 := ihd (i + 1) (acc ++ [ks[i]]) (by omega) (by simp [ha])
    rw [List.drop_eq_getElem_cons hil, List.append_cons]
    refine Ev.step (f := fun k => (trystlaw11_Ours.f k ks[i].f0 (ks[i].f1.map toL) (ks[i].f2.map toT)).bind fun bt => trystlaw11_Ours.l1 k (ks.length : Int) ((i + 1 : Nat) : Int) nm l (ks.map toT) nm ls (acc ++ [(⟨bt.1, bt.2.1, bt.2.2⟩ : RT)])) (fun k => ?_) (Ev.bind (ih _ (List.getElem_mem hil)) (by
      show Ev (fun k => trystlaw11_Ours.l1 k (ks.length : Int) ((i + 1 : Nat) : Int) nm l (ks.map toT) nm ls (acc ++ [(⟨ks[i].f0, ks[i].f1, ks[i].f2⟩ : RT)])) _
      rw [rt_eta]; exact h1))
    have hb : acc.length < 2199023255552 := by omega
    simp only [trystlaw11_Ours.l1, if_pos hb]
    rw [if_pos (by omega), if_pos (by omega), if_pos (by rw [List.length_map]; omega), rdPT ks i hil, wrapS i _ hil (by omega)]
theorem ours_l0 (nm : ByteArray) (l : List RL) (ks : List RT) (hl : l.length < 2513169434916) (hlb : ∀ x ∈ l, LB x) (r : ByteArray × List RL × List RT) (next : Ev (fun k => trystlaw11_Ours.l1 k (ks.length : Int) ((0 : Nat) : Int) nm (l.map toL) (ks.map toT) nm l ([] : List RT)) r) :
    ∀ (d i : Nat) (acc : List RL), i + d = l.length → acc.length = i → acc ++ l.drop i = l → Ev (fun k => trystlaw11_Ours.l0 k (l.length : Int) (i : Int) nm (l.map toL) (ks.map toT) nm acc) r := by
  intro d
  induction d with
  | zero =>
    intro i acc hi ha he
    rw [List.drop_eq_nil_of_le (by omega), List.append_nil] at he
    subst he
    exact Ev.step (fun k => by simp only [trystlaw11_Ours.l0]; rw [if_neg (by omega), List.length_map]; rfl) next
  | succ d ihd =>
    intro i acc hi ha he
    have hil : i < l.length := by omega
    rw [List.drop_eq_getElem_cons hil, List.append_cons] at he
    have h1 := ihd (i + 1) (acc ++ [l[i]]) (by omega) (by simp [ha]) he
    have hb := hlb _ (List.getElem_mem hil)
    have ho := ours l[i].f0 l[i].f2 (l[i].f1.map toP) (by rw [List.length_map]; exact hb.1)
    rw [ofP_toP] at ho
    refine Ev.step (f := fun k => (trystlaw10_Ours.f k l[i].f0 (l[i].f1.map toP) l[i].f2).bind fun bt => trystlaw11_Ours.l0 k (l.length : Int) ((i + 1 : Nat) : Int) nm (l.map toL) (ks.map toT) nm (acc ++ [(⟨bt.1, bt.2.1, bt.2.2⟩ : RL)])) (fun k => ?_) (Ev.bind ho h1)
    have hb : acc.length < 2513169434916 := by omega
    simp only [trystlaw11_Ours.l0, if_pos hb]
    rw [if_pos (by omega), if_pos (by omega), if_pos (by rw [List.length_map]; omega), rdPLm l i hil, wrapS i _ hil (by omega)]
theorem oursT : ∀ (N : Nat) (t : RT), SizeOf.sizeOf t < N → TB t → Ev (fun k => trystlaw11_Ours.f k t.f0 (t.f1.map toL) (t.f2.map toT)) (t.f0, t.f1, t.f2)
  | 0, t, h, _ => by omega
  | N + 1, t, h, hb => by
    obtain ⟨⟨h1, h2⟩, h3, h4⟩ := TB_of hb
    have ih : ∀ x ∈ t.f2, Ev (fun k => trystlaw11_Ours.f k x.f0 (x.f1.map toL) (x.f2.map toT)) (x.f0, x.f1, x.f2) := fun x hx => oursT N x (by have := kid_lt hx; omega) (h4 x hx)
    have n1 := ours_l1 t.f0 (t.f1.map toL) t.f2 t.f1 h3 ih t.f2.length 0 [] (by omega) rfl
    rw [List.nil_append, List.drop_zero] at n1
    have n0 := ours_l0 t.f0 t.f1 t.f2 h1 h2 _ n1 t.f1.length 0 [] (by omega) rfl (by rw [List.nil_append, List.drop_zero])
    exact Ev.step (fun k => by simp only [trystlaw11_Ours.f]; rw [List.length_map]; rfl) n0
theorem awake11 : Ev (fun k => trystlaw11_awake.f k) true := Ev.of (k := 60) (fun k => trystlaw11_awake.mono k) (by decide +kernel)
theorem same_self (x : RT) (hx : TB x) : Ev (fun k => trystlaw11_Same.f k x.f0 x.f1 x.f2 x.f0 x.f1 x.f2) true := by
  have := sameT _ x x (Nat.lt_succ_self _) hx
  rwa [eqT_self _ _ (Nat.lt_succ_self _)] at this
theorem treeBack_pure (x : RT) (hx : TB x) (hs : TS x) : ∃ k, trystlaw11_TreeBack.f k x.f0 x.f1 x.f2 = some true := by
  have hno : Ev (fun k => trystlaw11_TreeBack.j0 k true x.f0 x.f1 x.f2) true :=
    Ev.step (f := fun k => (trystlaw11_awake.f k).bind fun t => some t) (fun k => by simp only [trystlaw11_TreeBack.j0]; rw [if_pos trivial]) (Ev.bind awake11 (Ev.now _))
  have hyes : (formT x = true → goodT x ∧ nL x ≤ 50000) → Ev (fun k => trystlaw11_TreeBack.j0 k false x.f0 x.f1 x.f2) true := fun hg => by
    refine Ev.step (f := fun k => (trystlaw11_Theirs.f k x.f0 x.f1 x.f2).bind fun bt341 => (tree_Print.f k bt341.1 bt341.2.1 bt341.2.2).bind fun bt348 => if bt348.2 = 0 then ((tree_Parse.f k bt348.1).bind fun bt350 => if bt350.2.2.2.2 = 0 then (if bt350.2.2.2.1 = 0 then ((trystlaw11_Ours.f k bt350.1 bt350.2.1 bt350.2.2.1).bind fun bt360 => (trystlaw11_Same.f k bt360.1 bt360.2.1 bt360.2.2 x.f0 x.f1 x.f2).bind fun t367 => some t367) else some false) else some false) else some (bt348.1.toList == ([] : List UInt8))) (fun k => by simp only [trystlaw11_TreeBack.j0]; rw [if_neg (by simp)]) ?_
    refine Ev.bind (theirsT _ x (Nat.lt_succ_self _) hx) (Ev.bind (prTP x hx hs hg) ?_)
    by_cases h0 : (prT x).2 = 0
    · refine Ev.congr (fun k => by rw [if_pos h0]) (Ev.bind (parse_print x hg h0) ?_)
      refine Ev.congr (fun k => by show (if (0 : Int) = 0 then (if (0 : Int) = 0 then _ else _) else _) = _; rw [if_pos rfl, if_pos rfl]) ?_
      exact Ev.bind (oursT _ x (Nat.lt_succ_self _) hx) (Ev.bind (same_self x hx) (Ev.now _))
    · exact Ev.congr (f := fun _ => some true) (fun k => by rw [if_neg h0, prT_no x h0, emptyL]; rfl) (Ev.now _)
  refine Ev.rounds (r := true) ?_
  refine Ev.bind awake11 ?_
  refine Ev.congr (f := fun k => (trystlaw11_Few.f k x.f0 x.f1 x.f2).bind fun t => trystlaw11_TreeBack.j0 k (!t) x.f0 x.f1 x.f2) (fun k => by rw [if_pos rfl]) ?_
  cases hf : formT x with
  | false =>
    obtain ⟨b, hb⟩ := fewT' x hx
    refine Ev.bind hb ?_
    cases b with
    | false => exact hno
    | true => exact hyes (fun h => by rw [hf] at h; cases h)
  | true =>
    obtain ⟨b, hb, hg⟩ := fewX x hx hs (by unfold formT at hf; simp only [Bool.and_eq_true] at hf; exact hf.1)
    refine Ev.bind hb ?_
    cases b with
    | false => exact hno
    | true => exact hyes (fun _ => hg rfl)
end Go.Proofs.YtdojmdbaiddkgaaGreatDoor.Pure
end
section
set_option linter.unusedVariables false
namespace Go.Proofs.YtdojmdbaiddkgaaGreatDoor.Tabs
open Go Go.RowKit Go.Lib Go.Proofs.YtdojmdbaiddkgaaGreatDoor.Args
theorem tabsTreeB {W : World} (h : laidMetH Tryz.prog Rows.treeBackRow.laid W) : Print.GG W := by
  rw [MakeChecks.laidMetH_plain _ _ _ (by kernel_rfl)] at h
  exact gg_of_laid h
theorem walkTreeB (v0 : Value) (z0 : RTree) (w : World) (hG : Print.GG w) (w0 : IsTree w v0 z0 ∧ Pure.TS z0) :
    Calls Tryz.prog 4 #[v0] w fun e w' => e = .returned (.bool true) ∧ Below w.heap.size w w' := by
  obtain ⟨⟨b0, A0, c0, B0, d0, rfl, l0, h0, m0, g0⟩, s0⟩ := w0
  obtain ⟨k, hk⟩ := Pure.treeBack_pure z0 b0 s0
  exact Print.trystlaw11_TreeBack.calls k z0.f0 A0 c0 z0.f1 B0 d0 z0.f2 true w hG h0 l0 g0 m0 hk
end Go.Proofs.YtdojmdbaiddkgaaGreatDoor.Tabs
end
