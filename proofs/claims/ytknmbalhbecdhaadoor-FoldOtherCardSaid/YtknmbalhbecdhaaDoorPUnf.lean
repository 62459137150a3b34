/- Plain: fold.Unfold and the reference's Unfold answer the same; no program in sight but the printed functions. -/
import Derived.Test.YtknmbalhbecdhaaDoorPUtf0
import Derived.Test.YtknmbalhbecdhaaDoorPrint3
import Derived.Test.YtknmbalhbecdhaaDoorPrint6
import Derived.Lib.IndexLaws
set_option linter.unusedVariables false
set_option linter.unusedSimpArgs false
set_option linter.unusedSectionVars false
namespace Go.Proofs.YtknmbalhbecdhaaDoor.Pure
open Go.RowKit Go.Proofs.YtknmbalhbecdhaaDoor.Print Go.Proofs.YtknmbalhbecdhaaDoorW.PrintWords Go.Proofs.YtknmbalhbecdhaaDoorW.PrintLast Go.Proofs.YtknmbalhbecdhaaDoorW.PrintMore

/-- A text up to its first line feed, and what is behind it. -/
def splitNL : List UInt8 → Option (List UInt8 × List UInt8)
  | [] => none
  | c :: t => if c = 10 then some ([], t) else (splitNL t).map fun q => (c :: q.1, q.2)
theorem splitNL_none : ∀ (l : List UInt8), splitNL l = none → Lib.indexByte l 10 = -1
  | [], _ => rfl
  | c :: t, h => by
    unfold splitNL at h
    by_cases hc : c = 10
    · rw [if_pos hc] at h; cases h
    · rw [if_neg hc, Option.map_eq_none_iff] at h
      have := splitNL_none t h
      unfold Lib.indexByte
      simp [hc, this]
theorem splitNL_some : ∀ (l p r : List UInt8), splitNL l = some (p, r) → l = p ++ 10 :: r ∧ Lib.indexByte l 10 = (p.length : Int)
  | [], p, r, h => by cases h
  | c :: t, p, r, h => by
    unfold splitNL at h
    by_cases hc : c = 10
    · rw [if_pos hc] at h
      cases h
      subst hc
      exact ⟨rfl, by unfold Lib.indexByte; simp⟩
    · rw [if_neg hc, Option.map_eq_some_iff] at h
      obtain ⟨⟨p', r'⟩, h1, h2⟩ := h
      cases h2
      have := splitNL_some t p' r' h1
      refine ⟨by rw [this.1]; rfl, ?_⟩
      unfold Lib.indexByte
      simp [hc, this.2]
/-- Without a carriage return at the end. -/
def trimCR (p : List UInt8) : List UInt8 := if p.getLast? = some 13 then p.dropLast else p
def badP (p : List UInt8) : Bool := p.isEmpty || p.any (· == 13)
def goesP (p : List UInt8) : Bool := p.getD 0 0 == 32 || p.getD 0 0 == 9
def addLast (acc : List S78) (t : List UInt8) : List S78 := acc.set (acc.length - 1) ⟨(rd_T78 acc ((acc.length - 1 : Nat) : Int)).f0 ++ ⟨t.toArray⟩, (rd_T78 acc ((acc.length - 1 : Nat) : Int)).f1⟩
/-- A text, cut into lines; the number of a piece that is wrong. -/
def cutG : Nat → List UInt8 → List S78 → Nat → List S78 × Int
  | 0, _, acc, _ => (acc, 0)
  | k + 1, l, acc, n => if l = [] then (acc, 0) else
      match splitNL l with
      | none => ([], (n : Int))
      | some (q, r) => if badP (trimCR q) = true then ([], (n : Int)) else
          if goesP (trimCR q) = true then (if acc = [] then ([], (n : Int)) else cutG k r (addLast acc ((trimCR q).drop 1)) (n + 1))
          else cutG k r (acc ++ [⟨⟨(trimCR q).toArray⟩, (n : Int)⟩]) (n + 1)
/-- The lines, looked at one by one. -/
def finR : List S78 → List S78 → List ByteArray × Int × Int
  | [], all => (all.map (·.f0), 0, 0)
  | x :: t, all => if Lib.validD x.f0.data.toList = true then (if x.f0.size > 2000 then ([], x.f1, 4) else finR t all) else ([], x.f1, 3)
def unfB (p : List S78 × Int) : List ByteArray × Int × Int := if p.2 > 0 then ([], p.2, 5) else finR p.1 p.1
def unfA (s : ByteArray) : List ByteArray × Int × Int := if s.size > 20000 then ([], 0, 4) else unfB (cutG s.size s.data.toList [] 1)
theorem nil_ofU (s : ByteArray) (h : s.size = 0) : s.data.toList = [] := by
  apply List.length_eq_zero_iff.1; rw [Array.length_toList]; exact h
theorem ba_eq (s : ByteArray) : (⟨s.data.toList.toArray⟩ : ByteArray) = s := by cases s; simp
theorem is_natU (c : UInt8) (n : Nat) (hn : n < 256) (h : c = n.toUInt8) : (c.toNat : Int) = (n : Int) := by subst h; simp; omega
/-- What is known of the lines so far. -/
structure Acc (acc : List S78) (m : Nat) : Prop where
  len : acc.length + m ≤ 20000
  sz : ∀ x ∈ acc, x.f0.size + m ≤ 20000
theorem Acc.nil : Acc [] 20000 := ⟨by simp, fun x hx => by cases hx⟩
theorem Acc.less {acc : List S78} {m k : Nat} (h : Acc acc m) (hk : k ≤ m) : Acc acc k := ⟨by have := h.len; omega, fun x hx => by have := h.sz x hx; omega⟩
theorem rd_mem (acc : List S78) (h : acc ≠ []) : rd_T78 acc ((acc.length - 1 : Nat) : Int) ∈ acc := by
  have hl : 0 < acc.length := List.length_pos_iff.2 h
  unfold rd_T78
  rw [Int.toNat_natCast, List.getD_eq_getElem?_getD, List.getElem?_eq_getElem (by omega)]
  exact List.getElem_mem _
theorem Acc.add {acc : List S78} {m k : Nat} {t : List UInt8} (h : Acc acc m) (hne : acc ≠ []) (hk : t.length + k ≤ m) : Acc (addLast acc t) k := by
  refine ⟨by unfold addLast; rw [List.length_set]; have := h.len; omega, fun x hx => ?_⟩
  unfold addLast at hx
  rcases List.mem_or_eq_of_mem_set hx with hx | rfl
  · have := h.sz x hx; omega
  · have := h.sz _ (rd_mem acc hne)
    show (_ ++ _ : ByteArray).size + k ≤ 20000
    rw [ByteArray.size_append]
    have e : (⟨t.toArray⟩ : ByteArray).size = t.length := by show t.toArray.size = _; rw [List.size_toArray]
    omega
theorem Acc.new {acc : List S78} {m k : Nat} {p : List UInt8} {n : Int} (h : Acc acc m) (hk : p.length + k + 1 ≤ m) (hm : m ≤ 20000) : Acc (acc ++ [⟨⟨p.toArray⟩, n⟩]) k := by
  refine ⟨by rw [List.length_append]; have := h.len; simp; omega, fun x hx => ?_⟩
  rcases List.mem_append.1 hx with hx | hx
  · have := h.sz x hx; omega
  · rw [List.mem_singleton.1 hx]
    have e : (⟨p.toArray⟩ : ByteArray).size = p.length := by show p.toArray.size = _; rw [List.size_toArray]
    show (⟨p.toArray⟩ : ByteArray).size + k ≤ 20000
    omega
theorem trimCR_len (p : List UInt8) : (trimCR p).length ≤ p.length := by
  unfold trimCR; split
  · rw [List.length_dropLast]; omega
  · exact Nat.le_refl _
theorem split_len {l p r : List UInt8} (h : splitNL l = some (p, r)) : p.length + r.length + 1 = l.length := by
  rw [(splitNL_some l p r h).1]; simp; omega
theorem ba_size (l : List UInt8) : (⟨l.toArray⟩ : ByteArray).size = l.length := by show l.toArray.size = _; rw [List.size_toArray]
theorem ba_ext (l : List UInt8) (a b : Nat) : (⟨l.toArray⟩ : ByteArray).extract a b = ⟨((l.drop a).take (b - a)).toArray⟩ := by
  apply ByteArray.ext
  rw [ByteArray.data_extract]
  simp [List.extract_eq_take_drop]
theorem ba_toList (l : List UInt8) : (⟨l.toArray⟩ : ByteArray).toList = l := by rw [Lib.toList_data]
/-! ### a piece -/
theorem trim_f (q : List UInt8) (h : q.length ≤ 20000) : strings_TrimSuffix.f ⟨q.toArray⟩ ⟨#[13]⟩ = some ⟨(trimCR q).toArray⟩ := by
  have e1 : (⟨#[13]⟩ : ByteArray).size = 1 := rfl
  have e2 : (⟨#[13]⟩ : ByteArray).toList = [13] := by rw [Lib.toList_data]
  unfold strings_TrimSuffix.f stringslite_TrimSuffix.f stringslite_HasSuffix.f
  rw [ba_size, e1, e2]
  by_cases h0 : q = []
  · subst h0; rfl
  · have hl : 0 < q.length := List.length_pos_iff.2 h0
    have hw : wrap64 ((q.length : Int) - ((1 : Nat) : Int)) = ((q.length - 1 : Nat) : Int) := by unfold wrap64; omega
    rw [if_pos (by omega), hw, if_pos (by omega), if_pos (by omega), Int.toNat_natCast, ba_ext, ba_toList]
    have hlast : (q.drop (q.length - 1)).take (q.length - (q.length - 1)) = [q.getLast h0] := by
      rw [List.drop_eq_getElem_cons (by omega), List.drop_of_length_le (by omega), List.getLast_eq_getElem, show q.length - (q.length - 1) = 1 by omega]; rfl
    rw [hlast]
    simp only [Option.bind_some]
    unfold trimCR
    rw [List.getLast?_eq_some_getLast h0]
    by_cases hc : q.getLast h0 = 13
    · rw [hc]
      simp only [beq_self_eq_true, if_true]
      rw [if_pos (by omega), if_pos (by omega), ba_ext]
      simp [List.dropLast_eq_take]
    · have : ([q.getLast h0] == [(13 : UInt8)]) = false := by simpa using hc
      rw [this, if_neg (by simp), if_neg (by simpa using hc)]
      rfl
theorem has_cr (p : List UInt8) (hp : p ≠ []) : decide (0 ≤ Lib.indexByte p 13) = p.any (· == 13) := by
  clear hp
  induction p with
  | nil => rfl
  | cons c t ih =>
    have hge := Lib.indexByte_ge t 13
    unfold Lib.indexByte
    rw [List.any_cons, ← ih]
    by_cases hc : c = 13
    · simp [hc]
    · by_cases h1 : Lib.indexByte t 13 = -1
      · simp [hc, h1]
      · have h0 : 0 ≤ Lib.indexByte t 13 := by omega
        simp [hc, h1, h0]; omega
theorem piece_none (l : List UInt8) (h : splitNL l = none) : fold_piece.f ⟨l.toArray⟩ = some (⟨#[]⟩, ⟨#[]⟩, false) := by
  unfold fold_piece.f strings_IndexByte.f
  have e : Lib.indexByte (⟨l.toArray⟩ : ByteArray).data.toList (10 : Int).toNat.toUInt8 = -1 := splitNL_none l h
  rw [e]
  simp only [Option.bind_some]
  rw [if_pos (by omega)]
theorem piece_some (l q r : List UInt8) (hl : l.length ≤ 20000) (h : splitNL l = some (q, r)) : fold_piece.f ⟨l.toArray⟩ = some (⟨(trimCR q).toArray⟩, ⟨r.toArray⟩, !badP (trimCR q)) := by
  obtain ⟨e1, e2⟩ := splitNL_some l q r h
  have hlen := split_len h
  unfold fold_piece.f strings_IndexByte.f
  have e : Lib.indexByte (⟨l.toArray⟩ : ByteArray).data.toList (10 : Int).toNat.toUInt8 = (q.length : Int) := e2
  rw [e, Option.bind_some]
  have hw : wrap64 ((q.length : Int) + 1) = ((q.length + 1 : Nat) : Int) := wrap_one _ (by omega)
  rw [if_neg (by omega), if_pos (by omega), ba_size, if_pos (by omega), Int.toNat_natCast, ba_ext]
  have eq : (l.drop 0).take (q.length - 0) = q := by rw [e1]; simp
  rw [eq, trim_f q (by omega), Option.bind_some, hw, if_pos (by omega), if_pos (by omega), Int.toNat_natCast, ba_ext, ba_toList]
  have er : (l.drop (q.length + 1)).take (l.length - (q.length + 1)) = r := by
    rw [List.take_of_length_le (by rw [List.length_drop]; omega), e1, show q ++ 10 :: r = (q ++ [10]) ++ r by simp, List.drop_left' (by simp)]
  rw [er]
  clear e hw eq er e1 e2
  by_cases hp : trimCR q = []
  · rw [if_pos hp, hp, show badP [] = true from rfl]; simp only [Bool.not_true]
  · rw [if_neg hp]
    unfold strings_ContainsRune.f
    have eb : badP (trimCR q) = (trimCR q).any (· == 13) := by
      unfold badP
      cases ht : trimCR q with
      | nil => exact absurd ht hp
      | cons c t => rfl
    have e13 : ((13 : Int).toNat.toUInt8) = 13 := rfl
    rw [if_pos (by omega), eb, ← has_cr _ hp, e13, Option.bind_some]
/-! ### cut -/
theorem cut_end (k n : Nat) (acc : List S78) : fold_cut.l0 (k + 1) ⟨#[]⟩ acc n = some (acc, 0) := by
  simp only [fold_cut.l0]
  rw [if_pos (by rw [Lib.toList_data])]
theorem goesU (c : UInt8) : fold_goesOn.f c.toNat = some (c == 32 || c == 9) := by
  unfold fold_goesOn.f
  by_cases h : c = 32
  · subst h; rfl
  · have e1 : (c == 32) = false := beq_eq_false_iff_ne.2 h
    rw [if_neg (show ¬ (c.toNat : Int) = 32 from ne_nat c 32 (by omega) h), e1]
    by_cases h9 : c = 9
    · subst h9; rfl
    · have e2 : (c == 9) = false := beq_eq_false_iff_ne.2 h9
      rw [e2, beq_eq_false_iff_ne.2 (show ¬ (c.toNat : Int) = 9 from ne_nat c 9 (by omega) h9)]; rfl
theorem ba_bt0 (p : List UInt8) : bt ⟨p.toArray⟩ 0 = ((p.getD 0 0).toNat : Int) := bt_nat ⟨p.toArray⟩ 0
theorem cut_bad (k n : Nat) (l : List UInt8) (acc : List S78) (hne : l ≠ []) (p r : ByteArray) (hp : fold_piece.f ⟨l.toArray⟩ = some (p, r, false)) : fold_cut.l0 (k + 3) ⟨l.toArray⟩ acc n = some ([], (n : Int)) := by
  simp only [fold_cut.l0, hp, Option.bind_some, fold_cut.j1, fold_cut.j2]
  rw [if_neg (by rw [ba_toList]; exact hne)]
  simp
theorem cut_none (k n : Nat) (l p : List UInt8) (r : ByteArray) (hne : l ≠ []) (hpne : p ≠ []) (hp : fold_piece.f ⟨l.toArray⟩ = some (⟨p.toArray⟩, r, true)) (hg : goesP p = true) : fold_cut.l0 (k + 3) ⟨l.toArray⟩ [] n = some ([], (n : Int)) := by
  have hl : 0 < p.length := List.length_pos_iff.2 hpne
  unfold goesP at hg
  simp only [fold_cut.l0, hp, Option.bind_some, if_true, ba_bt0, goesU, hg, fold_cut.j1, fold_cut.j2]
  rw [if_neg (by rw [ba_toList]; exact hne), ba_size p, if_pos (by omega)]
  simp
theorem cut_more (k n : Nat) (l p r : List UInt8) (acc : List S78) (hne : l ≠ []) (hpne : p ≠ []) (ha : acc ≠ []) (hA : Acc acc (p.length)) (hal : acc.length ≤ 20000) (hn : n ≤ 20000) (hp : fold_piece.f ⟨l.toArray⟩ = some (⟨p.toArray⟩, ⟨r.toArray⟩, true)) (hg : goesP p = true) :
    fold_cut.l0 (k + 3) ⟨l.toArray⟩ acc n = fold_cut.l0 k ⟨r.toArray⟩ (addLast acc (p.drop 1)) ((n + 1 : Nat) : Int) := by
  have hl : 0 < p.length := List.length_pos_iff.2 hpne
  have hal0 : 0 < acc.length := List.length_pos_iff.2 ha
  have hsz := hA.sz _ (rd_mem acc ha)
  have e0 : ((acc.length : Int) == 0) = false := beq_eq_false_iff_ne.2 (by omega)
  have hw : wrap64 ((acc.length : Int) - 1) = ((acc.length - 1 : Nat) : Int) := by unfold wrap64; omega
  unfold goesP at hg
  simp only [fold_cut.l0, hp, Option.bind_some, if_true, ba_bt0, goesU, hg, fold_cut.j1, fold_cut.j2, e0, hw]
  have hc : (rd_T78 acc ((acc.length - 1 : Nat) : Int)).f0.size + ((⟨p.toArray⟩ : ByteArray).extract 1 p.length).size ≤ 9223372036854775807 := by rw [ByteArray.size_extract, ba_size p]; omega
  rw [if_neg (by rw [ba_toList]; exact hne), ba_size p, if_pos (by omega), if_neg (by simp), if_pos (by omega), if_pos (by omega), if_pos (by omega), if_pos hc, ba_ext p, wrap_one n (by omega), Int.toNat_natCast]
  rw [List.take_of_length_le (by rw [List.length_drop]; omega)]
  rfl
theorem cut_new (k n : Nat) (l p r : List UInt8) (acc : List S78) (hne : l ≠ []) (hpne : p ≠ []) (hal : acc.length ≤ 20000) (hn : n ≤ 20000) (hp : fold_piece.f ⟨l.toArray⟩ = some (⟨p.toArray⟩, ⟨r.toArray⟩, true)) (hg : goesP p = false) :
    fold_cut.l0 (k + 3) ⟨l.toArray⟩ acc n = fold_cut.l0 k ⟨r.toArray⟩ (acc ++ [⟨⟨p.toArray⟩, (n : Int)⟩]) ((n + 1 : Nat) : Int) := by
  have hl : 0 < p.length := List.length_pos_iff.2 hpne
  unfold goesP at hg
  simp only [fold_cut.l0, hp, Option.bind_some, if_true, ba_bt0, goesU, hg, fold_cut.j1, fold_cut.j2]
  rw [if_neg (by rw [ba_toList]; exact hne), ba_size p, if_pos (by omega)]
  simp only [Bool.false_eq_true, if_false]
  rw [if_pos (by omega), wrap_one n (by omega)]
theorem ev3 {α : Type} {g f : Nat → Option α} {r : α} (h : ∀ k, g (k + 3) = f k) (hf : Ev f r) : Ev g r := by
  obtain ⟨K, hK⟩ := hf
  refine ⟨K + 3, fun k hk => ?_⟩
  obtain ⟨j, rfl⟩ : ∃ j, k = j + 3 := ⟨k - 3, by omega⟩
  rw [h j]; exact hK j (by omega)
theorem badP_ne (p : List UInt8) (h : badP p = false) : p ≠ [] := by
  intro e; subst e; cases h
theorem cut_ev : ∀ (m n : Nat) (l : List UInt8) (acc : List S78), l.length ≤ m → Acc acc l.length → n + l.length ≤ 20001 → Ev (fun k => fold_cut.l0 k ⟨l.toArray⟩ acc n) (cutG m l acc n)
  | 0, n, l, acc, hl, hA, hn => by
    obtain rfl : l = [] := List.length_eq_zero_iff.1 (by omega)
    exact Ev.step (f := fun _ => some (acc, 0)) (fun k => cut_end k n acc) (Ev.now _)
  | m + 1, n, l, acc, hl, hA, hn => by
    unfold cutG
    by_cases hne : l = []
    · subst hne
      rw [if_pos rfl]
      exact Ev.step (f := fun _ => some (acc, 0)) (fun k => cut_end k n acc) (Ev.now _)
    rw [if_neg hne]
    have hlen := hA.len
    cases hs : splitNL l with
    | none => exact ev3 (f := fun _ => some ([], (n : Int))) (fun k => cut_bad k n l acc hne _ _ (piece_none l hs)) (Ev.now _)
    | some qr =>
      obtain ⟨q, r⟩ := qr
      have hq := split_len hs
      have ht := trimCR_len q
      have hp := piece_some l q r (by omega) hs
      simp only
      generalize trimCR q = p at *
      cases hb : badP p
      · rw [hb] at hp
        have hpne := badP_ne p hb
        simp only [Bool.false_eq_true, if_false]
        cases hg : goesP p
        · simp only [Bool.false_eq_true, if_false]
          refine ev3 (fun k => cut_new k n l p r acc hne hpne (by omega) (by omega) hp hg) ?_
          exact cut_ev m (n + 1) r _ (by omega) (hA.new (by omega) (by omega)) (by omega)
        · simp only [if_true]
          by_cases ha : acc = []
          · subst ha
            rw [if_pos rfl]
            exact ev3 (f := fun _ => some ([], (n : Int))) (fun k => cut_none k n l p _ hne hpne hp hg) (Ev.now _)
          · rw [if_neg ha]
            refine ev3 (fun k => cut_more k n l p r acc hne hpne ha (hA.less (by omega)) (by omega) (by omega) hp hg) ?_
            have hp0 : 0 < p.length := List.length_pos_iff.2 hpne
            exact cut_ev m (n + 1) r _ (by omega) (hA.add ha (by rw [List.length_drop]; omega)) (by omega)
      · rw [hb] at hp
        simp only [if_true]
        exact ev3 (f := fun _ => some ([], (n : Int))) (fun k => cut_bad k n l acc hne _ _ hp) (Ev.now _)
/-! ### what is done with the lines -/
theorem rd78 (X : List S78) (i : Nat) (h : i < X.length) : rd_T78 X (i : Int) = X[i] := by
  unfold rd_T78
  rw [Int.toNat_natCast, List.getD_eq_getElem?_getD, List.getElem?_eq_getElem h]; rfl
theorem fin_ev (X : List S78) (hl : X.length ≤ 20000) (hs : ∀ x ∈ X, x.f0.size ≤ 20000) : ∀ (n i : Nat), X.length - i ≤ n → i ≤ X.length →
    Ev (fun k => fold_Unfold.l0 k ((X.take i).map (·.f0)) X (X.length : Int) (i : Int)) (finR (X.drop i) X)
  | 0, i, hn, hi => by
    obtain rfl : i = X.length := by omega
    rw [List.drop_length, List.take_length]
    exact Ev.step (f := fun _ => some (X.map (·.f0), 0, 0)) (fun k => by simp only [fold_Unfold.l0]; rw [if_neg (by omega)]) (Ev.now _)
  | n + 1, i, hn, hi => by
    by_cases hlt : i < X.length
    case neg => exact fin_ev X hl hs n i (by omega) hi
    have hx := hs X[i] (List.getElem_mem hlt)
    have hr := rd78 X i hlt
    have ih := fin_ev X hl hs n (i + 1) (by omega) (by omega)
    rw [List.take_succ_eq_append_getElem hlt, List.map_append] at ih
    rw [List.drop_eq_getElem_cons hlt]
    unfold finR
    generalize X[i] = x at *
    have hv : utf8_ValidString.f x.f0 = some (Lib.validD x.f0.data.toList) := by unfold utf8_ValidString.f; rw [if_pos (by omega)]
    have hlen : ((X.take i).map (·.f0)).length = i := by rw [List.length_map, List.length_take]; omega
    by_cases h1 : Lib.validD x.f0.data.toList = true
    · rw [if_pos h1]
      by_cases h2 : x.f0.size > 2000
      · rw [if_pos h2]
        refine Ev.step (f := fun _ => some ([], x.f1, 4)) (fun k => ?_) (Ev.now _)
        simp only [fold_Unfold.l0, hr, hv, h1, Option.bind_some, if_true]
        rw [if_pos (by omega), if_pos (by omega), if_pos (by omega), if_pos (by omega)]
      · rw [if_neg h2]
        refine Ev.step (fun k => ?_) ih
        simp only [fold_Unfold.l0, hr, hv, h1, Option.bind_some, if_true]
        rw [if_pos (by omega), if_pos (by omega), if_pos (by omega), if_neg (by omega), hlen, if_pos (by omega), wrap_one i (by omega)]
        rfl
    · rw [if_neg h1]
      rw [Bool.not_eq_true] at h1
      refine Ev.step (f := fun _ => some ([], x.f1, 3)) (fun k => ?_) (Ev.now _)
      simp only [fold_Unfold.l0, hr, hv, h1, Option.bind_some]
      rw [if_pos (by omega), if_pos (by omega), if_pos (by omega), if_neg (by simp)]
theorem cutG_acc : ∀ (m n : Nat) (l : List UInt8) (acc : List S78), Acc acc l.length → Acc (cutG m l acc n).1 0
  | 0, n, l, acc, hA => hA.less (by omega)
  | m + 1, n, l, acc, hA => by
    unfold cutG
    have hlen := hA.len
    have e0 : Acc [] 0 := Acc.nil.less (by omega)
    by_cases hne : l = []
    · rw [if_pos hne]; exact hA.less (by omega)
    rw [if_neg hne]
    cases hs : splitNL l with
    | none => exact e0
    | some qr =>
      obtain ⟨q, r⟩ := qr
      have hq := split_len hs
      have ht := trimCR_len q
      simp only
      generalize trimCR q = p at *
      split
      · exact e0
      · rename_i hb
        rw [Bool.not_eq_true] at hb
        have hp0 : 0 < p.length := List.length_pos_iff.2 (badP_ne p hb)
        split
        · split
          · exact e0
          · rename_i ha
            exact cutG_acc m (n + 1) r _ (hA.add ha (by rw [List.length_drop]; omega))
        · exact cutG_acc m (n + 1) r _ (hA.new (by omega) (by omega))
theorem unfold_ev (s : ByteArray) (hs : s.size ≤ 140737488351232) : Ev (fun k => fold_Unfold.f k s) (unfA s) := by
  unfold unfA
  by_cases h : s.size > 20000
  · rw [if_pos h]
    refine Ev.congr (f := fun _ => some ([], 0, 4)) (fun k => ?_) (Ev.now _)
    unfold fold_Unfold.f; rw [if_pos (by omega)]
  · rw [if_neg h]
    have e : s.data.toList.length = s.size := by simp
    have hA : Acc [] s.data.toList.length := Acc.nil.less (by omega)
    have hc := cut_ev s.size 1 s.data.toList [] (by omega) hA (by omega)
    rw [ba_eq] at hc
    have hacc := cutG_acc s.size 1 s.data.toList [] hA
    refine Ev.congr (f := fun k => (fold_cut.f k s).bind fun bt256 => if bt256.2 > 0 then some (([] : List ByteArray), bt256.2, 5) else fold_Unfold.l0 k ([] : List ByteArray) bt256.1 (bt256.1.length : Int) 0) (fun k => by unfold fold_Unfold.f; rw [if_neg (by omega)]) ?_
    refine Ev.bind hc ?_
    unfold unfB
    generalize cutG s.size s.data.toList [] 1 = P at *
    by_cases hb : P.2 > 0
    · simp only [if_pos hb]; exact Ev.now _
    · simp only [if_neg hb]
      exact fin_ev P.1 (by have := hacc.len; omega) (fun x hx => by have := hacc.sz x hx; omega) P.1.length 0 (by omega) (by omega)
end Go.Proofs.YtknmbalhbecdhaaDoor.Pure
