/- escape.Text: what it writes, byte by byte; the walk over a strings.Builder of the call's own. -/
import Derived.Test.YtknmbalhbecdhaaDoorPrint1
import Derived.Test.YtknmbalhbecdhaaDoorBld
import Derived.Lib.Hide
set_option linter.unusedVariables false
set_option linter.unusedSimpArgs false
namespace Go.Proofs.YtknmbalhbecdhaaDoor.Print
open Go.RowKit Go.Proofs.YtknmbalhbecdhaaDoorW.PrintWords Go.Proofs.YtknmbalhbecdhaaDoorW.PrintLast Go.Proofs.YtknmbalhbecdhaaDoorW.PrintMore

/-- What a byte is written as. -/
def escB (c : UInt8) : List UInt8 := if c = 10 then [92, 110] else if c = 92 ∨ c = 59 ∨ c = 44 then [92, c] else [c]
def escT (l : List UInt8) : List UInt8 := l.flatMap escB
theorem escB_le (c : UInt8) : (escB c).length ≤ 2 := by unfold escB; split <;> (try split) <;> simp
theorem escT_le (l : List UInt8) : (escT l).length ≤ 2 * l.length := by
  induction l with
  | nil => simp [escT]
  | cons c t ih => have := escB_le c; simp only [escT, List.flatMap_cons, List.length_append, List.length_cons] at *; omega
theorem escT_snoc (l : List UInt8) (c : UInt8) : escT (l ++ [c]) = escT l ++ escB c := by simp [escT]
theorem take_snoc (s : ByteArray) (k : Nat) (h : k < s.size) : s.data.toList.take (k + 1) = s.data.toList.take k ++ [s[k]] := by
  rw [List.take_succ_eq_append_getElem (by simpa using h)]; rfl
def escape_Text.f (k : Nat) (a0 : ByteArray) : Option (ByteArray × Int) := (escape_Clean.f k a0 true).bind fun e => if e = 0 then (if 2 * a0.size ≤ 140737488355328 then some (⟨(escT a0.data.toList).toArray⟩, 0) else none) else some (⟨#[]⟩, e)
theorem escape_Text.mono : ∀ a0 k, LeO (escape_Text.f k a0) (escape_Text.f (k + 1) a0) := by
  intro a0 k
  unfold escape_Text.f
  exact LeO.bind (escape_Clean.mono _ _ _) (fun _ => LeO.refl _)
theorem special_idx (x : UInt8) : Lib.indexByte [92, 59, 44] x = if x = 92 then 0 else if x = 59 then 1 else if x = 44 then 2 else -1 := by
  unfold Lib.indexByte
  by_cases h1 : x = 92
  · subst h1; rfl
  · have e1 : ((92 : UInt8) == x) = false := beq_eq_false_iff_ne.2 (fun h => h1 h.symm)
    rw [e1, if_neg h1]
    unfold Lib.indexByte
    by_cases h2 : x = 59
    · subst h2; rfl
    · have e2 : ((59 : UInt8) == x) = false := beq_eq_false_iff_ne.2 (fun h => h2 h.symm)
      rw [e2, if_neg h2]
      unfold Lib.indexByte
      by_cases h3 : x = 44
      · subst h3; rfl
      · have e3 : ((44 : UInt8) == x) = false := beq_eq_false_iff_ne.2 (fun h => h3 h.symm)
        rw [e3, if_neg h3]
        unfold Lib.indexByte
        rfl
set_option maxHeartbeats 4000000 in
set_option maxRecDepth 100000 in
theorem Text_bad (k : Nat) (s : ByteArray) (z : Int) (hz : z ≠ 0) (w : World) (hG : GG w) (hC : Aside0 (escape_Clean.f k s true = some z)) :
    Calls Tryd.prog 21 #[.string s] w fun e w' => e = .returned (.tuple #[.string ⟨#[]⟩, .int .i64 z]) ∧ Below w.heap.size w w' := by
  have hz1 : (z == 0) = false := beq_eq_false_iff_ne.2 hz
  have hz2 : (z != 0) = true := bne_iff_ne.2 hz
  clear hz
  go_enter Tryd.func21, Tryd.ntmps21
  go_wp2_with (go_at_call 40; refine (escape_Clean.calls k s true z _ hG hC.out).mono ?_; rintro e w1 ⟨rfl, hb1⟩)
  go_ret2
  exact ⟨rfl, hb1⟩
set_option maxHeartbeats 8000000 in
set_option maxRecDepth 100000 in
theorem Text_ok (k : Nat) (s : ByteArray) (w : World) (hG : GG w) (hs : 2 * s.size ≤ 140737488355328) (hC : Aside0 (escape_Clean.f k s true = some 0)) :
    Calls Tryd.prog 21 #[.string s] w fun e w' => e = .returned (.tuple #[.string ⟨(escT s.data.toList).toArray⟩, .int .i64 0]) ∧ Below w.heap.size w w' := by
  go_enter Tryd.func21, Tryd.ntmps21
  go_wp2_with (go_at_call 40; refine (escape_Clean.calls k s true 0 _ hG hC.out).mono ?_; rintro e w1 ⟨rfl, hb1⟩)
  have HB1 := Aside0.mk hb1
  have hz1 := hb1.size
  clear hb1
  go_loopg [15] s.size (fun g v15 wr => ∃ i : Nat, i ≤ s.size ∧ s.size = i + g ∧ v15 = .int .i64 i ∧ Aside0 (Bld.Has w.heap.size w1.heap.size (escT (s.data.toList.take i)) wr) ∧ Aside0 (Below w.heap.size w wr))
  case atStart => exact ⟨0, by omega, by omega, rfl, ⟨Bld.Has.new _ _ hz1⟩, ⟨HB1.out.alloc hz1 _⟩⟩
  case round =>
    obtain ⟨i, hi, hig, rfl, HH, HB⟩ := hrel
    have hlen : (escT (s.data.toList.take i)).length ≤ 2 * i := by have := escT_le (s.data.toList.take i); have h2 : (s.data.toList.take i).length ≤ i := List.length_take_le _ _; omega
    have hsz := HB.out.size
    cases gk with
    | zero =>
      obtain rfl : i = s.size := by omega
      have hd : decide (s.size < s.size) = false := by simp
      clear hig
      go_wp2_with (go_at_call 47; refine (Bld.str _ _ _ _ HH.out hsz).mono ?_; rintro e w3 ⟨rfl, h1, h2, h3⟩)
      go_ret2
      exact ⟨by rw [List.take_of_length_le (by simp)]; rfl, HB.out.trans h2⟩
    | succ g =>
      have hlt : i < s.size := by omega
      have hts := take_snoc s i hlt
      obtain ⟨x, hx⟩ : ∃ x : UInt8, s[i] = x := ⟨_, rfl⟩
      rw [hx] at hts
      have HT : Aside0 (escT (s.data.toList.take (i + 1)) = escT (s.data.toList.take i) ++ escB x) := ⟨by rw [hts, escT_snoc]⟩
      clear hts
      have hxx : ((s[i]).toNat : Int) = (x.toNat : Int) := by rw [hx]
      have HX := Aside0.mk hx
      clear hx
      have hd : decide (i < s.size) = true := by simp; omega
      have hb0 := x.toNat_lt
      have hlen1 : (escT (s.data.toList.take i)).length + 2 ≤ 140737488355328 := by omega
      generalize escT (s.data.toList.take i) = L at *
      have HG := Aside0.mk hig
      clear hig
      have hix := special_idx x
      by_cases h10 : x = 10
      · have e1 : ((x.toNat : Int) == 10) = true := by subst h10; rfl
        have HE : Aside0 (escB x = [92, 110]) := ⟨by subst h10; rfl⟩
        clear h10 hix
        go_wp2_with (go_at_call 45; refine (Bld.ws _ _ _ _ _ HH.out (by show L.length + 2 ≤ _; omega) hsz).mono ?_; rintro e w3 ⟨rfl, h1, h2, h3⟩)
        go_roundg g
        case measure => have := HG.out; omega
        case rel => exact ⟨i + 1, by omega, by have := HG.out; omega, by go_num, ⟨by rw [HT.out, HE.out]; exact h1⟩, ⟨HB.out.trans h2⟩⟩
      · have e1 : ((x.toNat : Int) == 10) = false := beq_eq_false_iff_ne.2 (fun h => h10 (by apply UInt8.toNat_inj.1; simpa using (by omega : x.toNat = 10)))
        by_cases hsp : x = 92 ∨ x = 59 ∨ x = 44
        · have hge : (0 : Int) ≤ Lib.indexByte [92, 59, 44] x := by rw [hix]; split <;> (try split) <;> (try split) <;> first | decide | (exfalso; simp_all)
          have hge2 : decide ((0 : Int) ≤ Lib.indexByte [92, 59, 44] x) = true := by simpa using hge
          have HE : Aside0 (escB x = [92, x]) := ⟨by unfold escB; rw [if_neg h10, if_pos hsp]⟩
          clear h10 hsp hix hge
          go_wp2_with (go_at_call 44; refine (Tryd.strings_IndexByte _ _ _).mono ?_; rintro e w' ⟨rfl, hw⟩; rw [hw]; clear hw; rw [show ((x.toNat : Int)).toNat.toUInt8 = x by simp])
          go_wp2_with fail
          refine (Bld.wb _ _ _ 92 92 rfl _ HH.out (by omega) hsz).mono ?_
          rintro e w3 ⟨rfl, h1, h2, h3⟩
          have hsz3 : w.heap.size ≤ w3.heap.size := (HB.out.trans h2).size
          go_wp2_with fail
          refine (Bld.wb _ _ _ _ x rfl _ h1 (by simp; omega) hsz3).mono ?_
          rintro e w4 ⟨rfl, k1, k2, k3⟩
          go_wp2
          go_roundg g
          case measure => have := HG.out; omega
          case rel => exact ⟨i + 1, by omega, by have := HG.out; omega, by go_num, ⟨by rw [HT.out, HE.out]; simpa using k1⟩, ⟨(HB.out.trans h2).trans k2⟩⟩
        · have hlt2 : ¬ (0 : Int) ≤ Lib.indexByte [92, 59, 44] x := by rw [hix]; split <;> (try split) <;> (try split) <;> first | decide | (exfalso; simp_all)
          have hge2 : decide ((0 : Int) ≤ Lib.indexByte [92, 59, 44] x) = false := by simpa using hlt2
          have HE : Aside0 (escB x = [x]) := ⟨by unfold escB; rw [if_neg h10, if_neg hsp]⟩
          clear h10 hsp hix hlt2
          go_wp2_with (go_at_call 44; refine (Tryd.strings_IndexByte _ _ _).mono ?_; rintro e w' ⟨rfl, hw⟩; rw [hw]; clear hw; rw [show ((x.toNat : Int)).toNat.toUInt8 = x by simp])
          go_wp2_with fail
          refine (Bld.wb _ _ _ _ x rfl _ HH.out (by omega) hsz).mono ?_
          rintro e w4 ⟨rfl, k1, k2, k3⟩
          go_wp2
          go_roundg g
          case measure => have := HG.out; omega
          case rel => exact ⟨i + 1, by omega, by have := HG.out; omega, by go_num, ⟨by rw [HT.out, HE.out]; exact k1⟩, ⟨HB.out.trans k2⟩⟩
theorem escape_Text.calls (k : Nat) (a0 : ByteArray) (r1 : ByteArray) (r2 : Int) (w : World) (hG : GG w) (h : escape_Text.f k a0 = some (r1, r2)) :
    Calls Tryd.prog 21 #[.string a0] w fun e w' => e = .returned (.tuple #[.string r1, .int .i64 r2]) ∧ Below w.heap.size w w' := by
  unfold escape_Text.f at h
  obtain ⟨z, hz, h⟩ := Option.bind_eq_some_iff.mp h
  by_cases h0 : z = 0
  · subst h0
    rw [if_pos rfl] at h
    by_cases hs : 2 * a0.size ≤ 140737488355328
    · rw [if_pos hs] at h
      simp only [Option.some.injEq, Prod.mk.injEq] at h
      obtain ⟨rfl, rfl⟩ := h
      exact Text_ok k a0 w hG hs ⟨hz⟩
    · rw [if_neg hs] at h; cases h
  · rw [if_neg h0] at h
    simp only [Option.some.injEq, Prod.mk.injEq] at h
    obtain ⟨rfl, rfl⟩ := h
    exact Text_bad k a0 z h0 w hG ⟨hz⟩
end Go.Proofs.YtknmbalhbecdhaaDoor.Print
