/- Plain: what the reference reads and writes of texts is what the program's functions read and write. -/
import Derived.Test.YtknmbalhbecdhaaDoorPUtf
import Derived.Test.YtknmbalhbecdhaaDoorItems
import Derived.Test.YtknmbalhbecdhaaDoorCaret
import Derived.Test.YtknmbalhbecdhaaDoorText
import Derived.Test.YtknmbalhbecdhaaDoorPrint6
import Derived.Test.YtknmbalhbecdhaaDoorPrint7
import Derived.Test.YtknmbalhbecdhaaDoorPrint5
import Derived.Lib.LazyBuf
set_option linter.unusedVariables false
set_option linter.unusedSimpArgs false
set_option linter.unusedSectionVars false
namespace Go.Proofs.YtknmbalhbecdhaaDoor.Pure
open Go.RowKit Go.Proofs.YtknmbalhbecdhaaDoor.Print Go.Proofs.YtknmbalhbecdhaaDoorW.PrintWords Go.Proofs.YtknmbalhbecdhaaDoorW.PrintLast Go.Proofs.YtknmbalhbecdhaaDoorW.PrintMore

def nI (L : List UInt8) : List Int := L.map fun b => (b.toNat : Int)
theorem str_nI (L : List UInt8) : strOfNums (nI L) = ⟨L.toArray⟩ := by simp only [nI]; exact Go.Lib.Lz.strOfNums_map L
theorem nI_snoc (L : List UInt8) (c : UInt8) : nI L ++ [(c.toNat : Int)] = nI (L ++ [c]) := by simp [nI]
theorem nI_len (L : List UInt8) : (nI L).length = L.length := by simp [nI]
def itR (D : List ByteArray) (o : Option (List (List UInt8))) : List ByteArray × Int := match o with | none => ([], 7) | some X => (D ++ strs X, 0)
theorem itR_cons (D : List ByteArray) (L : List UInt8) (o : Option (List (List UInt8))) : itR D (o.map (L :: ·)) = itR (D ++ [⟨L.toArray⟩]) o := by
  cases o with
  | none => rfl
  | some X => simp [itR, strs]
theorem is_nat (c : UInt8) (n : Nat) (hn : n < 256) (h : c = n.toUInt8) : (c.toNat : Int) = (n : Int) := by subst h; simp; omega
theorem it_end (k : Nat) (s : ByteArray) (D : List ByteArray) (L : List UInt8) (hD : D.length < 8796093022208) : trystref08_Items.l0 (k + 1) s D (nI L) (s.size : Nat) = some (D ++ [⟨L.toArray⟩], 0) := by
  simp only [trystref08_Items.l0, str_nI]
  rw [if_neg (by omega), if_pos (by omega)]
section
variable {s : ByteArray} {i : Nat} {c : UInt8} (hi : i < s.size) (hs : s.size ≤ 4294967296) (hb : bt s (i : Int) = (c.toNat : Int))
include hi hs hb
theorem it_44 (k : Nat) (D : List ByteArray) (L : List UInt8) (hc : c = 44) (hD : D.length < 8796093022208) : trystref08_Items.l0 (k + 1) s D (nI L) i = trystref08_Items.l0 k s (D ++ [⟨L.toArray⟩]) [] ((i + 1 : Nat) : Int) := by
  simp only [trystref08_Items.l0, str_nI, hb]
  rw [if_pos (by omega), if_pos (by omega), if_pos (show (c.toNat : Int) = 44 from is_nat c 44 (by omega) hc), if_pos (by omega), wrap_one i (by omega)]
theorem it_59 (k : Nat) (D : List ByteArray) (L : List UInt8) (hc : c = 59) : trystref08_Items.l0 (k + 1) s D (nI L) i = some ([], 7) := by
  simp only [trystref08_Items.l0, str_nI, hb]
  have e : (c.toNat : Int) = 59 := is_nat c 59 (by omega) hc
  rw [if_pos (by omega), if_pos (by omega), if_neg (by omega), if_pos e]
theorem it_plain (k : Nat) (D : List ByteArray) (L : List UInt8) (h1 : c ≠ 44) (h2 : c ≠ 59) (h3 : c ≠ 92) (hl : (nI L).length < 140737488355328) : trystref08_Items.l0 (k + 1) s D (nI L) i = trystref08_Items.l0 k s D (nI (L ++ [c])) ((i + 1 : Nat) : Int) := by
  simp only [trystref08_Items.l0, str_nI, hb]
  rw [if_pos (by omega), if_pos (by omega), if_neg (show ¬ (c.toNat : Int) = 44 from ne_nat c 44 (by omega) h1), if_neg (show ¬ (c.toNat : Int) = 59 from ne_nat c 59 (by omega) h2), if_neg (show ¬ (c.toNat : Int) = 92 from ne_nat c 92 (by omega) h3), if_pos hl, wrap_one i (by omega), nI_snoc]
theorem it_last (k : Nat) (D : List ByteArray) (L : List UInt8) (hc : c = 92) (h : ¬ i + 1 < s.size) : trystref08_Items.l0 (k + 1) s D (nI L) i = some ([], 7) := by
  simp only [trystref08_Items.l0, str_nI, hb]
  have e : (c.toNat : Int) = 92 := is_nat c 92 (by omega) hc
  rw [if_pos (by omega), if_pos (by omega), if_neg (by omega), if_neg (by omega), if_pos e, wrap_one i (by omega), if_pos (by omega)]
theorem it_back (k : Nat) (D : List ByteArray) (L : List UInt8) (hc : c = 92) (h : i + 1 < s.size) (d : UInt8) (hd : bt s ((i + 1 : Nat) : Int) = (d.toNat : Int)) : trystref08_Items.l0 (k + 1) s D (nI L) i = trystref08_Items.j1 k s D (nI L) i (decide (d = 110 ∨ d = 78)) := by
  simp only [trystref08_Items.l0, str_nI, hb]
  have e : (c.toNat : Int) = 92 := is_nat c 92 (by omega) hc
  rw [if_pos (by omega), if_pos (by omega), if_neg (by omega), if_neg (by omega), if_pos e, wrap_one i (by omega), if_neg (by omega), if_pos (by omega), if_pos (by omega), hd]
  by_cases h110 : d = 110
  · have e2 : decide (d = 110 ∨ d = 78) = true := by simp [h110]
    rw [if_pos (show (d.toNat : Int) = 110 from is_nat d 110 (by omega) h110), e2]
  · rw [if_neg (show ¬ (d.toNat : Int) = 110 from ne_nat d 110 (by omega) h110)]
    by_cases h78 : d = 78
    · have e1 : ((d.toNat : Int) == 78) = true := beq_iff_eq.2 (show (d.toNat : Int) = 78 from is_nat d 78 (by omega) h78)
      have e2 : decide (d = 110 ∨ d = 78) = true := by simp [h78]
      rw [e1, e2]
    · have e1 : ((d.toNat : Int) == 78) = false := beq_eq_false_iff_ne.2 (show ¬ (d.toNat : Int) = 78 from ne_nat d 78 (by omega) h78)
      have e2 : decide (d = 110 ∨ d = 78) = false := by simp [h110, h78]
      rw [e1, e2]
end
section
variable {s : ByteArray} {i : Nat} {d : UInt8} (hi : i + 1 < s.size) (hs : s.size ≤ 4294967296) (hb : bt s ((i + 1 : Nat) : Int) = (d.toNat : Int))
include hi hs hb
theorem w_two : wrap64 (((i + 1 : Nat) : Int) + 1) = ((i + 2 : Nat) : Int) := wrap_one (i + 1) (by omega)
theorem it_n (k : Nat) (D : List ByteArray) (L : List UInt8) (hl : (nI L).length < 140737488355328) : trystref08_Items.j1 (k + 1) s D (nI L) i true = trystref08_Items.l0 k s D (nI (L ++ [10])) ((i + 2 : Nat) : Int) := by
  have e : nI L ++ [10] = nI (L ++ [10]) := nI_snoc L 10
  simp only [trystref08_Items.j1, if_true, wrap_one i (show i ≤ 140737488355327 by omega), w_two hi hs hb, e]
  rw [if_pos hl]
theorem it_sign (k : Nat) (D : List ByteArray) (L : List UInt8) (hl : (nI L).length < 140737488355328) (hsp : d = 92 ∨ d = 59 ∨ d = 44) : trystref08_Items.j1 (k + 1) s D (nI L) i false = trystref08_Items.l0 k s D (nI (L ++ [d])) ((i + 2 : Nat) : Int) := by
  simp only [trystref08_Items.j1, wrap_one i (show i ≤ 140737488355327 by omega), hb, w_two hi hs hb, nI_snoc]
  rw [if_neg (by simp), if_pos (by omega), if_pos (by omega)]
  rcases hsp with h | h | h
  · rw [if_pos (show (d.toNat : Int) = 92 from is_nat d 92 (by omega) h), if_pos hl]
  · have e : (d.toNat : Int) = 59 := is_nat d 59 (by omega) h
    rw [if_neg (by omega), if_pos e, if_pos hl]
  · have e : (d.toNat : Int) = 44 := is_nat d 44 (by omega) h
    rw [if_neg (by omega), if_neg (by omega), if_pos e, if_pos hl]
theorem it_bad (k : Nat) (D : List ByteArray) (L : List UInt8) (hsp : ¬ (d = 92 ∨ d = 59 ∨ d = 44)) : trystref08_Items.j1 (k + 1) s D (nI L) i false = some ([], 7) := by
  simp only [trystref08_Items.j1, wrap_one i (show i ≤ 140737488355327 by omega), hb, w_two hi hs hb, nI_snoc]
  simp only [not_or] at hsp
  rw [if_neg (by simp), if_pos (by omega), if_pos (by omega), if_neg (show ¬ (d.toNat : Int) = 92 from ne_nat d 92 (by omega) hsp.1), if_neg (show ¬ (d.toNat : Int) = 59 from ne_nat d 59 (by omega) hsp.2.1), if_neg (show ¬ (d.toNat : Int) = 44 from ne_nat d 44 (by omega) hsp.2.2)]
end
theorem refItems_ev (s : ByteArray) (hs : s.size ≤ 4294967296) : ∀ (n i : Nat) (D : List ByteArray) (L : List UInt8), s.size - i ≤ n → i ≤ s.size → D.length ≤ i → L.length ≤ i →
    Ev (fun k => trystref08_Items.l0 k s D (nI L) i) (itR D (itemsGo (s.data.toList.drop i) L))
  | 0, i, D, L, h, hi, hD, hL => by
    obtain rfl : i = s.size := by omega
    rw [List.drop_of_length_le (by simp)]
    exact Ev.step (fun k => it_end k s D L (by omega)) (Ev.now _)
  | n + 1, i, D, L, h, hi, hD, hL => by
    by_cases hlt : i < s.size
    case neg =>
      obtain rfl : i = s.size := by omega
      rw [List.drop_of_length_le (by simp)]
      exact Ev.step (fun k => it_end k s D L (by omega)) (Ev.now _)
    rw [drop_at s i hlt]
    have hb := bt_nat s i
    have ihc := refItems_ev s hs n (i + 1) (D ++ [⟨L.toArray⟩]) [] (by omega) (by omega) (by simp; omega) (by simp)
    have ihp := fun c => refItems_ev s hs n (i + 1) D (L ++ [c]) (by omega) (by omega) (by omega) (by simp; omega)
    generalize s.data.toList.getD i 0 = c at *
    have hl : (nI L).length < 140737488355328 := by rw [nI_len]; omega
    by_cases h44 : c = 44
    · refine Ev.step (fun k => it_44 hlt hs hb k D L h44 (by omega)) ?_
      rw [h44, go_comma, itR_cons]; exact ihc
    by_cases h59 : c = 59
    · refine Ev.step (fun k => it_59 hlt hs hb k D L h59) ?_
      rw [h59, go_semi]; exact Ev.now _
    by_cases h92 : c = 92
    case neg =>
      refine Ev.step (fun k => it_plain hlt hs hb k D L h44 h59 h92 hl) ?_
      rw [go_plain _ _ _ h44 h59 h92]; exact ihp c
    by_cases hl2 : i + 1 < s.size
    case neg =>
      refine Ev.step (fun k => it_last hlt hs hb k D L h92 hl2) ?_
      rw [List.drop_of_length_le (by simp; omega), h92]; exact Ev.now _
    rw [drop_at s (i + 1) hl2]
    have hb2 := bt_nat s (i + 1)
    have ihd := fun x => refItems_ev s hs n (i + 2) D (L ++ [x]) (by omega) (by omega) (by omega) (by simp; omega)
    generalize s.data.toList.getD (i + 1) 0 = d at *
    refine Ev.step (fun k => it_back hlt hs hb k D L h92 hl2 d hb2) ?_
    rw [h92, go_back]
    unfold signL
    by_cases hn : d = 110 ∨ d = 78
    · rw [if_pos hn, decide_eq_true hn]
      exact Ev.step (fun k => it_n hl2 hs hb2 k D L hl) (ihd 10)
    · rw [if_neg hn, decide_eq_false hn]
      by_cases hsp : d = 92 ∨ d = 59 ∨ d = 44
      · rw [if_pos hsp]
        exact Ev.step (fun k => it_sign hl2 hs hb2 k D L hl hsp) (ihd d)
      · rw [if_neg hsp]
        exact Ev.step (fun k => it_bad hl2 hs hb2 k D L hsp) (Ev.now _)
/-- What is read of a list of texts. -/
def itemsA (s : ByteArray) : List ByteArray × Int := if cleanR false s.data.toList = 0 then itemsR s else ([], cleanR false s.data.toList)
theorem refItems (s : ByteArray) (hs : s.size ≤ 4294967296) : Ev (fun k => trystref08_Items.f k s) (itemsA s) := by
  refine Ev.bind (refClean s false (by omega)) ?_
  unfold itemsA
  by_cases h0 : cleanR false s.data.toList = 0
  · rw [if_pos h0]
    simp only [if_pos h0]
    have := refItems_ev s hs s.size 0 [] [] (by omega) (by omega) (by simp) (by simp)
    have e : itR [] (itemsGo (s.data.toList.drop 0) []) = itemsR s := by
      unfold itR itemsR; rw [List.drop_zero]; cases itemsGo s.data.toList [] <;> simp
    rw [e] at this
    exact this
  · rw [if_neg h0]
    simp only [if_neg h0]
    exact Ev.now _
theorem items_ev (s : ByteArray) (hs : s.size ≤ 4294967296) : Ev (fun k => escape_items.f k s) (itemsA s) := by
  refine Ev.bind (escClean s false (by omega)) ?_
  unfold itemsA
  by_cases h0 : cleanR false s.data.toList = 0
  · simp only [if_pos h0, if_pos hs]; exact Ev.now _
  · simp only [if_neg h0]; exact Ev.now _
end Go.Proofs.YtknmbalhbecdhaaDoor.Pure
