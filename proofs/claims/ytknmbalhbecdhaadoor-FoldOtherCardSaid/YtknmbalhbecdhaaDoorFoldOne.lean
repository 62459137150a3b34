/- fold.one, walked: a line, folded. -/
import Derived.Test.YtknmbalhbecdhaaDoorXBase
import Derived.Test.YtknmbalhbecdhaaDoorBld
import Derived.WalkKit
import Derived.Lib.TrimUEq
import Derived.Lib.MapLaws
import Derived.Lib.SmallJoins
import Derived.Shelf.Unicode.DecodeLastEight
import Derived.Deep.LoopGhost
set_option linter.unusedVariables false
set_option linter.unusedSimpArgs false
namespace Go.Proofs.YtknmbalhbecdhaaDoor.Print
open Go.RowKit Go.Proofs.YtknmbalhbecdhaaDoorW.PrintWords Go.Proofs.YtknmbalhbecdhaaDoorW.PrintLast Go.Proofs.YtknmbalhbecdhaaDoorW.PrintMore

/-- How many bytes of l go into room bytes, cut between code points. -/
def takeN : Nat → List UInt8 → Nat → Nat
  | 0, _, _ => 0
  | k + 1, l, room => if l = [] then 0 else if room < (Lib.decodeL l).2 then 0 else (Lib.decodeL l).2 + takeN k (l.drop (Lib.decodeL l).2) (room - (Lib.decodeL l).2)
/-- A line, folded. -/
def oneL : Nat → List UInt8 → Nat → List UInt8
  | 0, _, _ => []
  | k + 1, l, room => if l = [] then [] else
      l.take (takeN l.length l room) ++ [13, 10] ++ (if l.drop (takeN l.length l room) = [] then [] else [32]) ++ oneL k (l.drop (takeN l.length l room)) 74
theorem decGo (t : ByteArray) (h : t.size ≠ 0) : Lib.decodeGo t = Lib.decodeL t.data.toList := by
  unfold Lib.decodeGo
  rw [if_neg h]; rfl
theorem ext_list (s : ByteArray) (n : Nat) : (s.extract n s.size).data.toList = s.data.toList.drop n := by
  rw [ByteArray.data_extract, Array.toList_extract, List.extract_eq_take_drop]
  exact List.take_of_length_le (by rw [List.length_drop, Array.length_toList]; exact Nat.le_refl _)
theorem decGo_ext (s : ByteArray) (n : Nat) (h : n < s.size) : Lib.decodeGo (s.extract n s.size) = Lib.decodeL (s.data.toList.drop n) := by
  rw [decGo _ (by rw [ByteArray.size_extract]; omega), ext_list]
theorem dL_pos (l : List UInt8) : 1 ≤ (Lib.decodeL l).2 := Lib.decodeL_width l
theorem dL_le4 (l : List UInt8) (hne : l ≠ []) : (Lib.decodeL l).2 ≤ 4 := by
  have := Lib.decodeGo_le4 ⟨l.toArray⟩
  rw [decGo _ (by show l.toArray.size ≠ 0; rw [List.size_toArray]; exact fun h => hne (List.length_eq_zero_iff.1 h))] at this
  exact this
theorem takeN_fuel : ∀ (k m : Nat) (l : List UInt8) (r : Nat), l.length ≤ k → l.length ≤ m → takeN k l r = takeN m l r
  | 0, m, l, r, hk, hm => by
    have : l = [] := List.length_eq_zero_iff.1 (by omega)
    subst this
    cases m <;> simp [takeN]
  | k + 1, 0, l, r, hk, hm => by
    have : l = [] := List.length_eq_zero_iff.1 (by omega)
    subst this
    simp [takeN]
  | k + 1, m + 1, l, r, hk, hm => by
    unfold takeN
    have h1 := dL_pos l
    by_cases hne : l = []
    · rw [if_pos hne, if_pos hne]
    · have h2 : 0 < l.length := List.length_pos_iff.2 hne
      rw [takeN_fuel k m (l.drop (Lib.decodeL l).2) _ (by rw [List.length_drop]; omega) (by rw [List.length_drop]; omega)]
def takeT (l : List UInt8) (r : Nat) : Nat := takeN l.length l r
theorem takeT_nil (r : Nat) : takeT [] r = 0 := rfl
theorem takeT_step (l : List UInt8) (r : Nat) (hne : l ≠ []) : takeT l r = if r < (Lib.decodeL l).2 then 0 else (Lib.decodeL l).2 + takeT (l.drop (Lib.decodeL l).2) (r - (Lib.decodeL l).2) := by
  have h2 : 0 < l.length := List.length_pos_iff.2 hne
  have h1 := dL_pos l
  obtain ⟨k, hk⟩ : ∃ k, l.length = k + 1 := ⟨l.length - 1, by omega⟩
  unfold takeT
  rw [hk, takeN, if_neg hne, takeN_fuel k (l.drop (Lib.decodeL l).2).length _ _ (by rw [List.length_drop]; omega) (Nat.le_refl _)]
theorem takeT_le : ∀ (n : Nat) (l : List UInt8) (r : Nat), l.length ≤ n → takeT l r ≤ l.length ∧ takeT l r ≤ r
  | n, [], r, _ => by simp [takeT_nil]
  | 0, a :: t, r, h => by simp at h
  | n + 1, a :: t, r, h => by
    have hne : a :: t ≠ [] := by simp
    have h1 := dL_pos (a :: t)
    have h2 := Lib.decodeL_le (a :: t) hne
    rw [takeT_step _ _ hne]
    split
    · omega
    · have := takeT_le n ((a :: t).drop (Lib.decodeL (a :: t)).2) (r - (Lib.decodeL (a :: t)).2) (by rw [List.length_drop]; omega)
      rw [List.length_drop] at this
      omega
theorem takeT_pos (l : List UInt8) (r : Nat) (hne : l ≠ []) (hr : 4 ≤ r) : 1 ≤ takeT l r := by
  have h1 := dL_pos l
  have h2 := dL_le4 l hne
  rw [takeT_step _ _ hne, if_neg (by omega)]; omega
theorem dat_append (a b : ByteArray) : (a ++ b).data.toList = a.data.toList ++ b.data.toList := by
  rw [ByteArray.data_append, Array.toList_append]
def oneT (l : List UInt8) (r : Nat) : List UInt8 := oneL l.length l r
theorem oneL_fuel : ∀ (k m : Nat) (l : List UInt8) (r : Nat), 4 ≤ r → l.length ≤ k → l.length ≤ m → oneL k l r = oneL m l r
  | 0, m, l, r, hr, hk, hm => by
    have : l = [] := List.length_eq_zero_iff.1 (by omega)
    subst this
    cases m <;> simp [oneL]
  | k + 1, 0, l, r, hr, hk, hm => by
    have : l = [] := List.length_eq_zero_iff.1 (by omega)
    subst this
    simp [oneL]
  | k + 1, m + 1, l, r, hr, hk, hm => by
    unfold oneL
    by_cases hne : l = []
    · rw [if_pos hne, if_pos hne]
    · have h2 : 0 < l.length := List.length_pos_iff.2 hne
      have h1 : 1 ≤ takeN l.length l r := takeT_pos l r hne hr
      rw [if_neg hne, if_neg hne, oneL_fuel k m (l.drop (takeN l.length l r)) 74 (by omega) (by rw [List.length_drop]; omega) (by rw [List.length_drop]; omega)]
theorem oneT_nil (r : Nat) : oneT [] r = [] := rfl
theorem oneT_step (l : List UInt8) (r : Nat) (hne : l ≠ []) (hr : 4 ≤ r) : oneT l r = l.take (takeT l r) ++ [13, 10] ++ (if l.drop (takeT l r) = [] then [] else [32]) ++ oneT (l.drop (takeT l r)) 74 := by
  have h2 : 0 < l.length := List.length_pos_iff.2 hne
  have h1 := takeT_pos l r hne hr
  obtain ⟨k, hk⟩ : ∃ k, l.length = k + 1 := ⟨l.length - 1, by omega⟩
  unfold oneT
  rw [hk, oneL, if_neg hne]
  show l.take (takeT l r) ++ [13, 10] ++ (if l.drop (takeT l r) = [] then [] else [32]) ++ oneL k (l.drop (takeT l r)) 74 = _
  rw [oneL_fuel k (l.drop (takeT l r)).length _ 74 (by omega) (by rw [List.length_drop]; omega) (Nat.le_refl _)]
theorem oneT_len : ∀ (n : Nat) (l : List UInt8) (r : Nat), 4 ≤ r → l.length ≤ n → (oneT l r).length ≤ 4 * l.length
  | n, [], r, _, _ => by simp [oneT_nil]
  | 0, a :: t, r, _, h => by simp at h
  | n + 1, a :: t, r, hr, h => by
    have hne : a :: t ≠ [] := by simp
    have h1 := takeT_pos (a :: t) r hne hr
    have h2 := (takeT_le _ (a :: t) r (Nat.le_refl _)).1
    have ih := oneT_len n ((a :: t).drop (takeT (a :: t) r)) 74 (by omega) (by rw [List.length_drop]; omega)
    rw [oneT_step _ _ hne hr]
    rw [List.length_drop] at ih
    have h3 : (if (a :: t).drop (takeT (a :: t) r) = [] then ([] : List UInt8) else [32]).length ≤ 1 := by split <;> simp
    simp only [List.length_append, List.length_take, List.length_cons, List.length_nil] at *
    omega
theorem GG.belowB {B : Nat} {w w' : World} (h : GG w) (h2 : 2 ≤ B) (hb : Below B w w') : GG w' :=
  ⟨⟨fun c hc => (hb.cell (by show 0 < B; omega)).trans (h.u8.1 c hc), fun i hi => ⟨(hb.cell (by show 1 < B; omega)).trans (h.u8.2 i hi).1, (hb.cell (by show 1 < B; omega)).trans (h.u8.2 i hi).2⟩⟩⟩
theorem crlf_size2 (M : List UInt8) (t u : ByteArray) (h : M.length + 4 * t.size ≤ 1004000000) (hu : u.size = 2) : M.length + (t ++ u).size ≤ 140737488355328 := by
  rw [ByteArray.size_append, hu]; omega
theorem crlf_size (M : List UInt8) (t : ByteArray) (h : M.length + 4 * t.size ≤ 1004000000) : M.length + (t ++ ⟨#[13, 10]⟩ : ByteArray).size ≤ 140737488355328 := by
  have e : (⟨#[13, 10]⟩ : ByteArray).size = 2 := rfl
  rw [ByteArray.size_append, e]; omega
set_option maxHeartbeats 4000000 in
set_option maxRecDepth 100000 in
theorem one_walk (B b : Nat) (L : List UInt8) (s : ByteArray) (w : World) (hG : GG w) (hH : Bld.Has B b L w) (hB2 : 2 ≤ B) (hBw : B ≤ w.heap.size) (hs : s.size ≤ 1000000) (hL : L.length ≤ 1000000000) :
    Calls Tryd.prog 52 #[.pointer (some ⟨b, 0, none⟩), .string s] w fun e w' => e = .returned (.tuple #[]) ∧ Bld.Has B b (L ++ oneT s.data.toList 75) w' ∧ Below B w w' := by
  go_enter Tryd.func52, Tryd.ntmps52
  go_wp2
  go_loopg [1, 4] s.size (fun g v1 v4 wr => ∃ (t : ByteArray) (room : Nat) (M : List UInt8), v1 = .string t ∧ v4 = .int .i64 room ∧ 4 ≤ room ∧ room ≤ 75 ∧ t.size ≤ s.size ∧ Aside0 (t.size ≤ g) ∧ Aside0 (M ++ oneT t.data.toList room = L ++ oneT s.data.toList 75) ∧ Aside0 (M.length + 4 * t.size ≤ 1004000000) ∧ Aside0 (Bld.Has B b M wr) ∧ Aside0 (Below B w wr))
  case atStart => exact ⟨s, 75, L, rfl, rfl, by omega, by omega, by omega, ⟨by omega⟩, ⟨rfl⟩, ⟨by omega⟩, ⟨hH⟩, ⟨Below.refl _ _⟩⟩
  case round =>
    obtain ⟨t, room, M, rfl, rfl, hr4, hr75, hts, HG, HE, HM, HH, HB⟩ := hrel
    by_cases ht : t.size = 0
    · have hd : decide (0 < t.size) = false := decide_eq_false (by omega)
      go_wp2
      go_end0
      have ht2 : t.data.toList = [] := by apply List.length_eq_zero_iff.1; rw [Array.length_toList]; exact ht
      have he := HE.out
      rw [ht2, oneT_nil, List.append_nil] at he
      exact ⟨rfl, he ▸ HH.out, HB.out⟩
    cases gk with
    | zero => have := HG.out; omega
    | succ g =>
    have hd : decide (0 < t.size) = true := decide_eq_true (by omega)
    go_wp2
    have hBr := HB.out.size
    obtain ⟨N, hN⟩ : ∃ N, takeT t.data.toList room = N := ⟨_, rfl⟩
    have hne : t.data.toList ≠ [] := fun e => ht (by have := congrArg List.length e; rw [Array.length_toList] at this; exact this)
    have hN1 := takeT_pos t.data.toList room hne hr4
    have hN2 := (takeT_le _ t.data.toList room (Nat.le_refl _)).1
    rw [Array.length_toList] at hN2
    rw [hN] at hN1 hN2
    have hN2' : N ≤ t.size := hN2
    clear hN2
    go_loopg [5] t.size (fun g v5 wr2 => ∃ n : Nat, v5 = .int .i64 n ∧ n ≤ t.size ∧ n ≤ room ∧ Aside0 (t.size ≤ n + g) ∧ Aside0 (n + takeT (t.data.toList.drop n) (room - n) = N) ∧ Aside0 (Bld.Has B b M wr2) ∧ Aside0 (Below B w wr2))
    case atStart => exact ⟨0, rfl, by omega, by omega, ⟨by omega⟩, ⟨by rw [List.drop_zero, Nat.zero_add, Nat.sub_zero]; exact hN⟩, HH, HB⟩
    case round =>
      obtain ⟨n, rfl, hnt, hnr, HI, HT, HH2, HB2⟩ := hrel
      by_cases hn : n = t.size
      · subst hn
        have hd2 : decide (t.size < t.size) = false := decide_eq_false (by omega)
        have hBw2 := HB2.out.size
        have HBB : Aside0 (B ≤ wr.heap.size) := ⟨by omega⟩
        clear hBw2
        go_wp2_with (go_at_call 45; refine (Bld.ws _ _ _ _ _ HH2.out (crlf_size2 _ _ _ HM.out rfl) HBB.out).mono ?_; rintro e w3 ⟨rfl, h1, h2, h3⟩)
        go_roundg g
        case measure => have := HG.out; omega
        case rel =>
          have hN3 : N = t.size := by have := HT.out; rw [List.drop_of_length_le (by rw [Array.length_toList]; exact Nat.le_refl _), takeT_nil] at this; omega
          refine ⟨ByteArray.empty, 74, M ++ (t.data.toList ++ [13, 10]), rfl, rfl, by omega, by omega, by show 0 ≤ _; omega, ⟨by show 0 ≤ _; omega⟩, ⟨?_⟩, ⟨?_⟩, ⟨?_⟩, ⟨HB2.out.trans h2⟩⟩
          · have he := HE.out
            rw [oneT_step _ _ hne hr4, hN, hN3, List.take_of_length_le (by rw [Array.length_toList]; exact Nat.le_refl _), List.drop_of_length_le (by rw [Array.length_toList]; exact Nat.le_refl _), if_pos rfl, oneT_nil, List.append_nil, List.append_nil] at he
            show _ ++ oneT [] 74 = _
            rw [oneT_nil, List.append_nil]; exact he
          · have := HM.out
            have e : t.data.toList.length = t.size := by rw [Array.length_toList]; rfl
            show _ + 4 * 0 ≤ _
            simp only [List.length_append, List.length_cons, List.length_nil, e]; omega
          · rw [dat_append] at h1; exact h1
      · have hlt : n < t.size := by omega
        have hd2 : decide (n < t.size) = true := decide_eq_true hlt
        have hK0 := decGo_ext t n hlt
        have hk1 := dL_pos (t.data.toList.drop n)
        have hne2 : t.data.toList.drop n ≠ [] := by
          intro e; have := congrArg List.length e; rw [List.length_drop, Array.length_toList] at this; have e2 : t.data.size = t.size := rfl; simp only [List.length_nil] at this; omega
        have hk2 := Lib.decodeL_le (t.data.toList.drop n) hne2
        have hk4 := dL_le4 (t.data.toList.drop n) hne2
        have HS := Aside0.mk (takeT_step (t.data.toList.drop n) (room - n) hne2)
        have e9 : (t.data.toList.drop n).length = t.size - n := by rw [List.length_drop, Array.length_toList]; rfl
        rw [e9] at hk2
        clear e9
        obtain ⟨r, k, hK⟩ : ∃ r k, Lib.decodeL (t.data.toList.drop n) = (r, k) := ⟨_, _, rfl⟩
        rw [hK] at hK0 hk1 hk2 hk4
        rw [hK] at HS
        simp only at hk1 hk2 hk4 HS
        have HK := Aside0.mk hK0
        clear hK0 hK hne hne2
        have hGw := hG.belowB hB2 HB2.out
        by_cases hbk : room < n + k
        · have hd3 : decide ((room : Int) < (n : Int) + (k : Int)) = true := decide_eq_true (by omega)
          have hnN : N = n := by have h1 := HT.out; rw [HS.out, if_pos (by omega)] at h1; omega
          have hBw2 := HB2.out.size
          have HBB : Aside0 (B ≤ wr.heap.size) := ⟨by omega⟩
          have hxs : (t.extract 0 n).size = n := by rw [ByteArray.size_extract]; omega
          have HM3 : Aside0 (M.length + 4 * (t.extract 0 n).size ≤ 1004000000) := ⟨by rw [hxs]; have := HM.out; omega⟩
          go_wp2_with (go_at_call 72; refine (Tryd.utf8_DecodeRuneInString _ _ hGw.u8).mono ?_; rintro e w3 ⟨rfl, hb3⟩; rw [HK.out])
          have hBw3 := hb3.size
          have HBB3 : Aside0 (B ≤ w3.heap.size) := ⟨by omega⟩
          have HH3 := HH2.out.below hb3
          go_at_call 45
          refine (Bld.ws _ _ _ _ _ HH3 (crlf_size2 _ _ _ HM3.out rfl) HBB3.out).mono ?_
          rintro e w4 ⟨rfl, h1, h2, h3⟩
          have hBw4 := h2.size
          have HBB4 : Aside0 (B ≤ w4.heap.size) := ⟨by omega⟩
          have HL4 : Aside0 ((M ++ (t.extract 0 n ++ ⟨#[13, 10]⟩ : ByteArray).data.toList).length + 1 ≤ 140737488355328) := ⟨by
            rw [List.length_append]
            have e1 : (t.extract 0 n ++ ⟨#[13, 10]⟩ : ByteArray).data.toList.length = n + 2 := by
              rw [Array.length_toList]
              show (t.extract 0 n ++ ⟨#[13, 10]⟩ : ByteArray).size = _
              rw [ByteArray.size_append, hxs]; rfl
            rw [e1]; have := HM.out; omega⟩
          have H1 := Aside0.mk h1
          have H2 := Aside0.mk h2
          have H3 := Aside0.mk hb3
          clear h1 h2 h3 hb3 HH3
          go_wp2_with (go_at_call 46; refine (Bld.wb _ _ _ _ 32 rfl _ H1.out HL4.out HBB4.out).mono ?_; rintro e w5 ⟨rfl, k1, k2, k3⟩)
          go_roundg g
          case measure => have := HG.out; omega
          case rel =>
            have e0 : (t.extract n t.size).size = t.size - n := by rw [ByteArray.size_extract]; omega
            have hB3 : Below B w w3 := HB2.out.trans (H3.out.mono (by have := HB2.out.size; omega))
            refine ⟨t.extract n t.size, 74, M ++ (t.data.toList.take n ++ [13, 10]) ++ [32], rfl, rfl, by omega, by omega, by omega, ⟨by have := HG.out; omega⟩, ⟨?_⟩, ⟨?_⟩, ⟨?_⟩, ⟨(hB3.trans H2.out).trans k2⟩⟩
            · have hne : t.data.toList ≠ [] := fun e => ht (by have := congrArg List.length e; rw [Array.length_toList] at this; exact this)
              have hne2 : t.data.toList.drop n ≠ [] := by
                intro e; have := congrArg List.length e; rw [List.length_drop, Array.length_toList] at this; have e2 : t.data.size = t.size := rfl; simp only [List.length_nil] at this; omega
              have he := HE.out
              rw [oneT_step _ _ hne hr4, hN, hnN, if_neg hne2] at he
              rw [ext_list, ← he]
              simp only [List.append_assoc]
            · have := HM.out
              have e : t.data.toList.length = t.size := by rw [Array.length_toList]; rfl
              rw [e0]
              simp only [List.length_append, List.length_cons, List.length_nil, List.length_take, e]; omega
            · rw [dat_append] at k1
              have e1 : (t.extract 0 n).data.toList = t.data.toList.take n := by
                rw [ByteArray.data_extract, Array.toList_extract, List.extract_eq_take_drop, List.drop_zero, Nat.sub_zero]
              rw [e1] at k1
              exact k1
        · have hd3 : decide ((room : Int) < (n : Int) + (k : Int)) = false := decide_eq_false (by omega)
          cases gk with
          | zero => exfalso; have := HI.out; omega
          | succ g2 =>
          go_wp2_with (go_at_call 72; refine (Tryd.utf8_DecodeRuneInString _ _ hGw.u8).mono ?_; rintro e w3 ⟨rfl, hb3⟩; rw [HK.out])
          go_roundg g2
          case measure => have := HI.out; omega
          case rel =>
            refine ⟨n + k, by go_num, by omega, by omega, ⟨by have := HI.out; omega⟩, ⟨?_⟩, ⟨HH2.out.below hb3⟩, ⟨HB2.out.trans (hb3.mono (by have := HB2.out.size; omega))⟩⟩
            have h1 := HT.out
            rw [HS.out, if_neg (by omega), List.drop_drop] at h1
            rw [show room - (n + k) = room - n - k by omega]
            omega
end Go.Proofs.YtknmbalhbecdhaaDoor.Print
