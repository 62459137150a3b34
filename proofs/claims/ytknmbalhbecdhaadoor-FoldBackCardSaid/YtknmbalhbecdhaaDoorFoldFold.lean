/- fold.Fold, walked. -/
import Derived.Test.YtknmbalhbecdhaaDoorFoldOne
import Derived.Test.YtknmbalhbecdhaaDoorPrint1
set_option linter.unusedVariables false
set_option linter.unusedSimpArgs false
namespace Go.Proofs.YtknmbalhbecdhaaDoor.Print
open Go.RowKit Go.Proofs.YtknmbalhbecdhaaDoorW.PrintWords Go.Proofs.YtknmbalhbecdhaaDoorW.PrintLast Go.Proofs.YtknmbalhbecdhaaDoorW.PrintMore

/-- A line that can't be folded. -/
def badF (s : ByteArray) : Bool := s.data.toList.isEmpty || s.data.toList.getD 0 0 == 32 || s.data.toList.getD 0 0 == 9 || Lib.containsAny s.data.toList [13, 10]
def foldR : List ByteArray → List UInt8 → ByteArray × Int
  | [], acc => if acc.length > 20000 then (⟨#[]⟩, 4) else (⟨acc.toArray⟩, 0)
  | s :: t, acc => if s.size > 2000 ∨ acc.length > 20000 then (⟨#[]⟩, 4) else foldR t (acc ++ oneT s.data.toList 75)
def foldA (l : List ByteArray) : ByteArray × Int := if l.any badF = true then (⟨#[]⟩, 5) else foldR l []
def fold_Fold.f (l0 : List ByteArray) : Option (ByteArray × Int) := if (∀ x ∈ l0, x.size < 4294967281) then some (foldA l0) else none
theorem GG.two {w : World} (h : GG w) : 2 ≤ w.heap.size := by
  have h1 := (h.u8.2 0 (by omega)).1
  rcases Nat.lt_or_ge 1 w.heap.size with h' | h'
  · exact h'
  · simp [World.cell?, Array.getElem?_eq_none h'] at h1
theorem goes_on (c : UInt8) : fold_goesOn.f c.toNat = some (c == 32 || c == 9) := by
  unfold fold_goesOn.f
  by_cases h : c = 32
  · subst h; rfl
  · have e1 : (c == 32) = false := beq_eq_false_iff_ne.2 h
    rw [if_neg (fun e => h (by apply UInt8.toNat_inj.1; have : c.toNat = 32 := by omega
                               rw [this]; rfl)), e1]
    by_cases h9 : c = 9
    · subst h9; rfl
    · have e2 : (c == 9) = false := beq_eq_false_iff_ne.2 h9
      have e3 : ((c.toNat : Int) == 9) = false := beq_eq_false_iff_ne.2 (fun e => h9 (by apply UInt8.toNat_inj.1; have : c.toNat = 9 := by omega
                                                                                         rw [this]; rfl))
      rw [e2, e3]; rfl
theorem any_take (l : List ByteArray) (k : Nat) (h : (l.take k).any badF = true) : l.any badF = true := by
  obtain ⟨x, hx, hb⟩ := List.any_eq_true.1 h
  exact List.any_eq_true.2 ⟨x, List.mem_of_mem_take hx, hb⟩
theorem foldA_bad (l : List ByteArray) (h : l.any badF = true) : foldA l = (⟨#[]⟩, 5) := by unfold foldA; rw [if_pos h]
set_option maxHeartbeats 1000000 in
set_option maxRecDepth 100000 in
theorem fold_walk (A0 : Option Addr) (c0 : Nat) (l0 : List ByteArray) (w : World) (hG : GG w) (hr0 : Kd.C Kd.string w A0 l0.length l0) (hc0 : l0.length ≤ c0) (hs : ∀ x ∈ l0, x.size < 4294967281) :
    Calls Tryd.prog 27 #[.slice A0 l0.length c0] w fun e w' => e = .returned (.tuple #[.string (foldA l0).1, .int .i64 (foldA l0).2]) ∧ Below w.heap.size w w' := by
  have HR := Aside0.mk hr0
  have HC := Aside0.mk hc0
  have HS := Aside0.mk hs
  clear hr0 hc0 hs
  go_enter Tryd.func27, Tryd.ntmps27
  go_wp2
  go_loopg [11] l0.length (fun g v11 wr => ∃ i : Nat, v11 = .int .i64 i ∧ i ≤ l0.length ∧ Aside0 (l0.length ≤ i + g) ∧ Aside0 ((l0.take i).any badF = false) ∧ Aside0 (Below w.heap.size w wr))
  case atStart => exact ⟨0, by go_num, by omega, ⟨by omega⟩, ⟨rfl⟩, ⟨Below.refl _ _⟩⟩
  case round =>
    obtain ⟨i, rfl, hi, HI, HA, HB⟩ := hrel
    by_cases hlt : i < l0.length
    · obtain ⟨ad, rfl, hcell⟩ := Kd.at_string (Kd.C_below HR.out HB.out) (i : Int) (by omega) (by omega)
      have hxm : rdOf ByteArray.empty l0 (i : Int) ∈ l0 := by
        unfold rdOf; rw [Int.toNat_natCast, List.getD_eq_getElem?_getD, List.getElem?_eq_getElem hlt]; exact List.getElem_mem hlt
      have hxs := HS.out _ hxm
      have HX : Aside0 ((l0.take (i + 1)).any badF = badF (rdOf ByteArray.empty l0 (i : Int))) := ⟨by
        have e : rdOf ByteArray.empty l0 (i : Int) = l0[i] := by unfold rdOf; rw [Int.toNat_natCast, List.getD_eq_getElem?_getD, List.getElem?_eq_getElem hlt]; rfl
        rw [e, List.take_succ_eq_append_getElem hlt, List.any_append, HA.out]; simp⟩
      rw [Int.toNat_natCast] at hcell
      clear hxm
      generalize rdOf ByteArray.empty l0 (i : Int) = x at *
      have hd : decide (i < l0.length) = true := decide_eq_true hlt
      by_cases hx : x.size = 0
      · have hx0 : x = ⟨#[]⟩ := by
          cases x with
          | mk d => congr 1; exact Array.eq_empty_of_size_eq_zero hx
        subst hx0
        have hA := foldA_bad l0 (any_take l0 (i + 1) (by rw [HX.out]; rfl))
        go_wp2
        go_ret2
        exact ⟨by rw [hA]; rfl, HB.out⟩
      · have hc0 : 0 < x.size := by omega
        obtain ⟨c, hc⟩ : ∃ c : UInt8, x[0] = c := ⟨_, rfl⟩
        have hd2 : (x == (⟨#[]⟩ : ByteArray)) = false := by
          show (x.data == #[]) = false
          exact beq_eq_false_iff_ne.2 (fun e => hx (by show x.data.size = 0; rw [e]; rfl))
        have hgo := goes_on c
        have hx0 : x.data.toList.getD 0 0 = c := by
          rw [← hc, List.getD_eq_getElem?_getD, List.getElem?_eq_getElem (by rw [Array.length_toList]; exact hc0)]; rfl
        have hxe : x.data.toList.isEmpty = false := by
          cases h : x.data.toList with
          | nil => exact absurd (by have := congrArg List.length h; rw [Array.length_toList] at this; exact this) hx
          | cons a t => rfl
        have hsz := HB.out.size
        have hxe2 : x.toList.isEmpty = false := by rw [Lib.toList_data]; exact hxe
        by_cases hg9 : (c == 32 || c == 9) = true
        · have hA := foldA_bad l0 (any_take l0 (i + 1) (by rw [HX.out]; unfold badF; rw [hx0, hxe, Bool.false_or, hg9, Bool.true_or]))
          rw [hg9] at hgo
          go_wp2_with (go_at_call 50; refine (fold_goesOn.calls _ _ _ (hG.below HB.out) hgo).mono ?_; rintro e w2 ⟨rfl, hd3⟩; have hb3 := hd3.below.mono hsz; clear hd3)
          go_ret2
          exact ⟨by rw [hA]; rfl, HB.out.trans hb3⟩
        · rw [Bool.not_eq_true] at hg9
          rw [hg9] at hgo
          have hca : strings_ContainsAny.f x ⟨#[13, 10]⟩ = some (Lib.containsAny x.data.toList [13, 10]) := by
            unfold strings_ContainsAny.f; rw [if_pos ⟨hxs, by decide, by decide, by decide⟩]
          have hGw := hG.below HB.out
          by_cases hc9 : Lib.containsAny x.data.toList [13, 10] = true
          · have hA := foldA_bad l0 (any_take l0 (i + 1) (by rw [HX.out]; unfold badF; rw [hc9, Bool.or_true]))
            rw [hc9] at hca
            go_wp2_with (go_at_call 50; refine (fold_goesOn.calls _ _ _ hGw hgo).mono ?_; rintro e w2 ⟨rfl, hd3⟩; have hb3 := hd3.below; clear hd3)
            go_at_call 42
            refine (strings_ContainsAny.calls _ _ _ _ (hGw.below hb3) hca).mono ?_
            rintro e w3 ⟨rfl, hb4⟩
            go_wp2
            go_ret2
            exact ⟨by rw [hA]; rfl, (HB.out.trans (hb3.mono hsz)).trans (hb4.mono (by have := hb3.size; omega))⟩
          · rw [Bool.not_eq_true] at hc9
            rw [hc9] at hca
            cases gk with
            | zero => exfalso; have := HI.out; omega
            | succ g2 =>
            go_wp2_with (go_at_call 50; refine (fold_goesOn.calls _ _ _ hGw hgo).mono ?_; rintro e w2 ⟨rfl, hd3⟩; have hb3 := hd3.below; clear hd3)
            go_at_call 42
            refine (strings_ContainsAny.calls _ _ _ _ (hGw.below hb3) hca).mono ?_
            rintro e w3 ⟨rfl, hb4⟩
            go_wp2
            go_roundg g2
            case measure => have := HI.out; omega
            case rel =>
              have hlen : l0.length ≤ 9223372036854775807 := HR.out.2.1
              refine ⟨i + 1, ?_, by omega, ⟨by have := HI.out; omega⟩, ⟨by rw [HX.out]; unfold badF; rw [hx0, hxe, hc9, Bool.false_or, hg9]; rfl⟩, ⟨(HB.out.trans (hb3.mono hsz)).trans (hb4.mono (by have := hb3.size; omega))⟩⟩
              first | (go_num; done) | (congr 1; unfold wrap64; omega)
    · have hd : decide (i < l0.length) = false := decide_eq_false hlt
      have hA0 : l0.any badF = false := by have := HA.out; rwa [List.take_of_length_le (by omega)] at this
      have hlen : l0.length ≤ 9223372036854775807 := HR.out.2.1
      have hsz := HB.out.size
      go_wp2
      go_loopg [29] l0.length (fun g v29 wr2 => ∃ (j : Nat) (acc : List UInt8), v29 = .int .i64 j ∧ j ≤ l0.length ∧ Aside0 (l0.length ≤ j + g) ∧ Aside0 (foldR (l0.drop j) acc = foldA l0) ∧ acc.length ≤ 28000 ∧ Aside0 (Bld.Has w.heap.size wr.heap.size acc wr2) ∧ Aside0 (Below w.heap.size w wr2))
      case atStart => exact ⟨0, [], by go_num, by omega, ⟨by omega⟩, ⟨by unfold foldA; rw [hA0]; rfl⟩, by simp, ⟨Bld.Has.new _ _ hsz⟩, ⟨HB.out.alloc hsz _⟩⟩
      case round =>
        obtain ⟨j, acc, rfl, hj, HJ, HF, hacc, HH, HB2⟩ := hrel
        have hsz2 := HB2.out.size
        by_cases hlt2 : j < l0.length
        · obtain ⟨ad, rfl, hcell⟩ := Kd.at_string (Kd.C_below HR.out HB2.out) (j : Int) (by omega) (by omega)
          have HX : Aside0 (l0.drop j = rdOf ByteArray.empty l0 (j : Int) :: l0.drop (j + 1)) := ⟨by
            have e : rdOf ByteArray.empty l0 (j : Int) = l0[j] := by unfold rdOf; rw [Int.toNat_natCast, List.getD_eq_getElem?_getD, List.getElem?_eq_getElem hlt2]; rfl
            rw [e]; exact List.drop_eq_getElem_cons hlt2⟩
          rw [Int.toNat_natCast] at hcell
          generalize rdOf ByteArray.empty l0 (j : Int) = x at *
          have hd4 : decide (j < l0.length) = true := decide_eq_true hlt2
          by_cases hx : x.size > 2000
          · have hd5 : decide (2000 < x.size) = true := decide_eq_true hx
            have hA : foldA l0 = (⟨#[]⟩, 4) := by rw [← HF.out, HX.out, foldR, if_pos (.inl hx)]
            go_wp2
            go_ret2
            exact ⟨by first | rfl | (rw [hA]; rfl), HB2.out⟩
          · have hd5 : decide (2000 < x.size) = false := decide_eq_false hx
            by_cases hac : acc.length > 20000
            · have hd6 : decide (20000 < acc.length) = true := decide_eq_true hac
              have hA : foldA l0 = (⟨#[]⟩, 4) := by rw [← HF.out, HX.out, foldR, if_pos (.inr hac)]
              go_wp2_with (go_at_call 51; refine (Bld.len _ _ _ _ HH.out).mono ?_; rintro e w2 ⟨rfl, hw2⟩; rw [hw2]; clear hw2)
              go_ret2
              exact ⟨by first | rfl | (rw [hA]; rfl), HB2.out⟩
            · have hd6 : decide (20000 < acc.length) = false := decide_eq_false hac
              go_wp2_with (go_at_call 51; refine (Bld.len _ _ _ _ HH.out).mono ?_; rintro e w2 ⟨rfl, hw2⟩; rw [hw2]; clear hw2)
              cases gk with
              | zero => exfalso; have := HJ.out; omega
              | succ g3 =>
              have hB2 : 2 ≤ w.heap.size := GG.two hG
              have hlen2 := oneT_len _ x.data.toList 75 (by omega) (Nat.le_refl _)
              have hGw := hG.below HB2.out
              first | go_at_call 52 | skip
              refine (one_walk w.heap.size _ acc x _ hGw HH.out hB2 hsz2 (by omega) (by omega)).mono ?_
              rintro e w3 ⟨rfl, h1, h2⟩
              go_wp2
              go_roundg g3
              case measure => have := HJ.out; omega
              case rel =>
                have hlen3 : l0.length ≤ 9223372036854775807 := HR.out.2.1
                have e7 : x.data.toList.length = x.size := by rw [Array.length_toList]; rfl
                refine ⟨j + 1, acc ++ oneT x.data.toList 75, ?_, by omega, ⟨by have := HJ.out; omega⟩, ⟨?_⟩, by rw [List.length_append]; omega, ⟨h1⟩, ⟨HB2.out.trans h2⟩⟩
                · first | (go_num; done) | (congr 1; unfold wrap64; omega)
                · rw [← HF.out, HX.out, foldR, if_neg (by omega)]
        · have hd4 : decide (j < l0.length) = false := decide_eq_false hlt2
          have hF2 : foldR [] acc = foldA l0 := by have := HF.out; rwa [List.drop_of_length_le (by omega)] at this
          by_cases hac : acc.length > 20000
          · have hd6 : decide (20000 < acc.length) = true := decide_eq_true hac
            have hA : foldA l0 = (⟨#[]⟩, 4) := by rw [← hF2, foldR, if_pos hac]
            go_wp2_with (go_at_call 51; refine (Bld.len _ _ _ _ HH.out).mono ?_; rintro e w2 ⟨rfl, hw2⟩; rw [hw2]; clear hw2)
            go_ret2
            exact ⟨by first | rfl | (rw [hA]; rfl), HB2.out⟩
          · have hd6 : decide (20000 < acc.length) = false := decide_eq_false hac
            have hA : foldA l0 = (⟨acc.toArray⟩, 0) := by rw [← hF2, foldR, if_neg hac]
            go_wp2_with (go_at_call 51; refine (Bld.len _ _ _ _ HH.out).mono ?_; rintro e w2 ⟨rfl, hw2⟩; rw [hw2]; clear hw2)
            first | go_at_call 47 | skip
            refine (Bld.str _ _ _ _ HH.out hsz2).mono ?_
            rintro e w3 ⟨rfl, h1, h2, h3⟩
            go_wp2
            go_ret2
            exact ⟨by first | rfl | (rw [hA]; rfl), HB2.out.trans h2⟩
theorem fold_Fold.calls (A0 : Option Addr) (c0 : Nat) (l0 : List ByteArray) (r1 : ByteArray) (r2 : Int) (w : World) (hG : GG w) (hr0 : Kd.C Kd.string w A0 l0.length l0) (hc0 : l0.length ≤ c0) (h : fold_Fold.f l0 = some (r1, r2)) :
    Calls Tryd.prog 27 #[.slice A0 l0.length c0] w fun e w' => e = .returned (.tuple #[.string r1, .int .i64 r2]) ∧ Below w.heap.size w w' := by
  unfold fold_Fold.f at h
  by_cases hs : ∀ x ∈ l0, x.size < 4294967281
  · rw [if_pos hs] at h
    have h2 := Option.some.inj h
    have := fold_walk A0 c0 l0 w hG hr0 hc0 hs
    rw [h2] at this
    exact this
  · rw [if_neg hs] at h; cases h
end Go.Proofs.YtknmbalhbecdhaaDoor.Print
