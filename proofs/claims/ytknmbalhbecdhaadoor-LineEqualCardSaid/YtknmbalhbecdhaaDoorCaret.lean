/- escape.caret: what it reads, byte by byte; the walk over a strings.Builder of the call's own. -/
import Derived.Test.YtknmbalhbecdhaaDoorXBase
import Derived.Test.YtknmbalhbecdhaaDoorBld
import Derived.Lib.Hide
set_option linter.unusedVariables false
set_option linter.unusedSimpArgs false
namespace Go.Proofs.YtknmbalhbecdhaaDoor.Print
open Go.RowKit Go.Proofs.YtknmbalhbecdhaaDoorW.PrintWords Go.Proofs.YtknmbalhbecdhaaDoorW.PrintLast Go.Proofs.YtknmbalhbecdhaaDoorW.PrintMore

/-- What is read. -/
def carL : List UInt8 → List UInt8
  | [] => []
  | [x] => [x]
  | x :: y :: t => if x = 94 then (if y = 110 then 10 :: carL t else if y = 39 then 34 :: carL t else if y = 94 then 94 :: carL t else 94 :: carL (y :: t)) else x :: carL (y :: t)
theorem drop_one (s : ByteArray) (k : Nat) (h : k < s.size) : s.data.toList.drop k = s[k] :: s.data.toList.drop (k + 1) := by
  rw [List.drop_eq_getElem_cons (by simpa using h)]; rfl
theorem u8_ne (x : UInt8) (n : Nat) (hn : n < 256) (h : x ≠ n.toUInt8) : ((x.toNat : Int) == (n : Int)) = false :=
  beq_eq_false_iff_ne.2 (fun e => h (by apply UInt8.toNat_inj.1; have : x.toNat = n := by omega
                                        rw [this]; simp; omega))
def escape_caret.f (a0 : ByteArray) : Option ByteArray := if a0.size ≤ 140737488355328 then some ⟨(carL a0.data.toList).toArray⟩ else none
set_option maxHeartbeats 1600000 in
set_option maxRecDepth 100000 in
theorem escape_caret.calls (a0 : ByteArray) (r : ByteArray) (w : World) (hG : GG w) (h : escape_caret.f a0 = some r) :
    Calls Tryd.prog 43 #[.string a0] w fun e w' => e = .returned (.string r) ∧ Below w.heap.size w w' := by
  by_cases hs : a0.size ≤ 140737488355328
  case neg => simp only [escape_caret.f] at h; rw [if_neg hs] at h; cases h
  simp only [escape_caret.f] at h
  rw [if_pos hs] at h
  obtain rfl := Option.some.inj h
  clear h
  go_enter Tryd.func43, Tryd.ntmps43
  go_wp2
  go_loopg [4] a0.size (fun g v4 wr => ∃ (i : Nat) (L : List UInt8), i ≤ a0.size ∧ Aside0 (a0.size ≤ i + g) ∧ v4 = .int .i64 i ∧ L.length ≤ i ∧ Aside0 (L ++ carL (a0.data.toList.drop i) = carL a0.data.toList) ∧ Aside0 (Bld.Has w.heap.size w.heap.size L wr) ∧ Aside0 (Below w.heap.size w wr))
  case atStart => exact ⟨0, [], by omega, ⟨by omega⟩, rfl, by simp, ⟨by simp⟩, ⟨Bld.Has.new _ _ (Nat.le_refl _)⟩, ⟨(Below.refl _ _).alloc (Nat.le_refl _) _⟩⟩
  case round =>
    obtain ⟨i, L, hi, HG, rfl, hL, HE, HH, HB⟩ := hrel
    have hsz := HB.out.size
    by_cases hlt : i < a0.size
    case neg =>
      obtain rfl : i = a0.size := by omega
      have hd : decide (a0.size < a0.size) = false := by simp
      go_wp2_with (go_at_call 47; refine (Bld.str _ _ _ _ HH.out hsz).mono ?_; rintro e w3 ⟨rfl, h1, h2, h3⟩)
      go_ret
      exact ⟨by have := HE.out; rw [List.drop_of_length_le (by simp)] at this; simp only [carL, List.append_nil] at this; rw [this]; rfl, HB.out.trans h2⟩
    cases gk with
    | zero => have := HG.out; omega
    | succ g =>
      have hd : decide (i < a0.size) = true := by simp; omega
      have hdr := drop_one a0 i hlt
      obtain ⟨x, hx⟩ : ∃ x : UInt8, a0[i] = x := ⟨_, rfl⟩
      rw [hx] at hdr
      have hb0 := x.toNat_lt
      have HD := Aside0.mk hdr
      clear hdr
      by_cases hx94 : x = 94
      case neg =>
        have e1 : ((x.toNat : Int) == 94) = false := u8_ne x 94 (by omega) hx94
        have HN : Aside0 (carL (a0.data.toList.drop i) = x :: carL (a0.data.toList.drop (i + 1))) := ⟨by
          rw [HD.out]
          cases a0.data.toList.drop (i + 1) with
          | nil => rfl
          | cons y t => simp only [carL]; rw [if_neg hx94]⟩
        clear hx94
        go_wp2_with fail
        refine (Bld.wb _ _ _ _ x rfl _ HH.out (by omega) hsz).mono ?_
        rintro e w4 ⟨rfl, k1, k2, k3⟩
        go_wp2
        go_roundg g
        case measure => have := HG.out; omega
        case rel => exact ⟨i + 1, L ++ [x], by omega, ⟨by have := HG.out; omega⟩, by go_num, by simp; omega, ⟨by have := HE.out; rw [HN.out] at this; simpa using this⟩, ⟨k1⟩, ⟨HB.out.trans k2⟩⟩
      subst hx94
      by_cases hl2 : i + 1 < a0.size
      case neg =>
        have hd2 : decide (i + 1 < a0.size) = false := by simp; omega
        have hd3 : decide ((i : Int) + 1 < (a0.size : Int)) = false := by simp; omega
        have e1 : (((94 : UInt8).toNat : Int) == 94) = true := rfl
        have HN : Aside0 (carL (a0.data.toList.drop i) = [94]) := ⟨by rw [HD.out, List.drop_of_length_le (by simp; omega)]; rfl⟩
        go_wp2_with fail
        refine (Bld.wb _ _ _ _ 94 rfl _ HH.out (by omega) hsz).mono ?_
        rintro e w4 ⟨rfl, k1, k2, k3⟩
        go_wp2
        go_roundg g
        case measure => have := HG.out; omega
        case rel => exact ⟨i + 1, L ++ [94], by omega, ⟨by have := HG.out; omega⟩, by go_num, by simp; omega, ⟨by have := HE.out; rw [HN.out] at this; rw [List.drop_of_length_le (by simp; omega)]; simpa [carL] using this⟩, ⟨k1⟩, ⟨HB.out.trans k2⟩⟩
      have hd2 : decide (i + 1 < a0.size) = true := by simp; omega
      have hd3 : decide ((i : Int) + 1 < (a0.size : Int)) = true := by simp; omega
      have e1 : (((94 : UInt8).toNat : Int) == 94) = true := rfl
      have hdr := drop_one a0 (i + 1) hl2
      obtain ⟨y, hy⟩ : ∃ y : UInt8, a0[i + 1] = y := ⟨_, rfl⟩
      rw [hy] at hdr
      have hb1 := y.toNat_lt
      have HD2 := Aside0.mk hdr
      clear hdr
      have hn : ((i : Int) + 1).toNat = i + 1 := by omega
      have h01 : (0 : Int) ≤ (i : Int) + 1 := by omega
      have hm1 : IntKind.i64.wrap ((i : Int) + 1 - 1) = (i : Int) := by unfold IntKind.wrap; simp [IntKind.bits, IntKind.signed]; omega
      by_cases hy110 : y = 110
      case pos =>
        have e2 : ((y.toNat : Int) == 110) = true := by subst hy110; rfl
        have HN : Aside0 (carL (a0.data.toList.drop i) = 10 :: carL (a0.data.toList.drop (i + 2))) := ⟨by rw [HD.out, HD2.out, hy110]; simp [carL]⟩
        clear hy110
        go_wp2_with fail
        refine (Bld.wb _ _ _ _ 10 rfl _ HH.out (by omega) hsz).mono ?_
        rintro e w4 ⟨rfl, k1, k2, k3⟩
        go_wp2
        go_roundg g
        case measure => have := HG.out; omega
        case rel => exact ⟨i + 2, L ++ [10], by omega, ⟨by have := HG.out; omega⟩, by go_num, by simp; omega, ⟨by have := HE.out; rw [HN.out] at this; simpa using this⟩, ⟨k1⟩, ⟨HB.out.trans k2⟩⟩
      have f2 : ((y.toNat : Int) == 110) = false := u8_ne y 110 (by omega) hy110
      by_cases hy39 : y = 39
      case pos =>
        have e2 : ((y.toNat : Int) == 39) = true := by subst hy39; rfl
        have HN : Aside0 (carL (a0.data.toList.drop i) = 34 :: carL (a0.data.toList.drop (i + 2))) := ⟨by rw [HD.out, HD2.out, hy39]; simp [carL]⟩
        clear hy110 hy39
        go_wp2_with fail
        refine (Bld.wb _ _ _ _ 34 rfl _ HH.out (by omega) hsz).mono ?_
        rintro e w4 ⟨rfl, k1, k2, k3⟩
        go_wp2
        go_roundg g
        case measure => have := HG.out; omega
        case rel => exact ⟨i + 2, L ++ [34], by omega, ⟨by have := HG.out; omega⟩, by go_num, by simp; omega, ⟨by have := HE.out; rw [HN.out] at this; simpa using this⟩, ⟨k1⟩, ⟨HB.out.trans k2⟩⟩
      have f3 : ((y.toNat : Int) == 39) = false := u8_ne y 39 (by omega) hy39
      by_cases hy94 : y = 94
      case pos =>
        have e2 : ((y.toNat : Int) == 94) = true := by subst hy94; rfl
        have HN : Aside0 (carL (a0.data.toList.drop i) = 94 :: carL (a0.data.toList.drop (i + 2))) := ⟨by rw [HD.out, HD2.out, hy94]; simp [carL]⟩
        clear hy110 hy39 hy94
        go_wp2_with fail
        refine (Bld.wb _ _ _ _ 94 rfl _ HH.out (by omega) hsz).mono ?_
        rintro e w4 ⟨rfl, k1, k2, k3⟩
        go_wp2
        go_roundg g
        case measure => have := HG.out; omega
        case rel => exact ⟨i + 2, L ++ [94], by omega, ⟨by have := HG.out; omega⟩, by go_num, by simp; omega, ⟨by have := HE.out; rw [HN.out] at this; simpa using this⟩, ⟨k1⟩, ⟨HB.out.trans k2⟩⟩
      have f4 : ((y.toNat : Int) == 94) = false := u8_ne y 94 (by omega) hy94
      have HN : Aside0 (carL (a0.data.toList.drop i) = 94 :: carL (a0.data.toList.drop (i + 1))) := ⟨by rw [HD.out, HD2.out]; simp [carL, hy110, hy39, hy94]⟩
      clear hy110 hy39 hy94
      go_wp2_with fail
      refine (Bld.wb _ _ _ _ 94 rfl _ HH.out (by omega) hsz).mono ?_
      rintro e w4 ⟨rfl, k1, k2, k3⟩
      go_wp2
      go_roundg g
      case measure => have := HG.out; omega
      case rel => exact ⟨i + 1, L ++ [94], by omega, ⟨by have := HG.out; omega⟩, by go_num, by simp; omega, ⟨by have := HE.out; rw [HN.out] at this; simpa using this⟩, ⟨k1⟩, ⟨HB.out.trans k2⟩⟩
end Go.Proofs.YtknmbalhbecdhaaDoor.Print
