/- Plain: the reference's UTF-8 (next, UTF, size, Clean) is the library's; no program in sight but the printed functions. -/
import Derived.Test.YtknmbalhbecdhaaDoorPrint4
import Derived.Lib.ValidU
import Derived.Lib.TrimUEq
import Derived.Lib.SpaceUEq
import Derived.Lib.ValidLaws
import Derived.Lib.RuneCount
import Derived.Lib.MapLaws
set_option linter.unusedVariables false
set_option linter.unusedSimpArgs false
namespace Go.Proofs.YtknmbalhbecdhaaDoor.Pure
open Go.RowKit Go.Proofs.YtknmbalhbecdhaaDoor.Print Go.Proofs.YtknmbalhbecdhaaDoorW.PrintWords Go.Proofs.YtknmbalhbecdhaaDoorW.PrintLast Go.Proofs.YtknmbalhbecdhaaDoorW.PrintMore

theorem bt_nat (s : ByteArray) (m : Nat) : bt s (m : Int) = ((s.data.toList.getD m 0).toNat : Int) := by
  unfold bt
  by_cases h : m < s.size
  · rw [dif_pos (by simpa using h)]
    have : s.data.toList.getD m 0 = s[m] := by
      rw [List.getD_eq_getElem?_getD, List.getElem?_eq_getElem (by simpa using h)]; rfl
    rw [this]; rfl
  · rw [dif_neg (by simpa using h)]
    rw [List.getD_eq_getElem?_getD, List.getElem?_eq_none (by simp; omega)]; rfl
theorem wrap_nat (m : Nat) (c : Nat) (h : m + c ≤ 140737488355328) : wrap64 ((m : Int) + (c : Int)) = ((m + c : Nat) : Int) := by
  unfold wrap64; omega
theorem wrap_one (m : Nat) (h : m ≤ 140737488355327) : wrap64 ((m : Int) + 1) = ((m + 1 : Nat) : Int) := by
  unfold wrap64; omega
def refN (n b0 b1 b2 b3 : Nat) : Nat :=
  if b0 < 128 then 1
  else if 194 ≤ b0 ∧ b0 < 224 then (if n < 2 then 0 else if 128 ≤ b1 ∧ b1 < 192 then 2 else 0)
  else if 224 ≤ b0 ∧ b0 < 240 then (if n < 3 then 0 else if (128 ≤ b1 ∧ b1 < 192) ∧ 128 ≤ b2 ∧ b2 < 192 then (if b0 = 224 ∧ b1 < 160 ∨ b0 = 237 ∧ 159 < b1 then 0 else 3) else 0)
  else if 240 ≤ b0 ∧ b0 < 245 then (if n < 4 then 0 else if (128 ≤ b1 ∧ b1 < 192) ∧ (128 ≤ b2 ∧ b2 < 192) ∧ 128 ≤ b3 ∧ b3 < 192 then (if b0 = 240 ∧ b1 < 144 ∨ b0 = 244 ∧ 143 < b1 then 0 else 4) else 0)
  else 0
def nxN (d : Nat × Nat) : Nat := if d = (65533, 1) then 0 else d.2
set_option maxHeartbeats 2000000 in
theorem refN_eq (n b0 b1 b2 b3 : Nat) (hn : 1 ≤ n) (h0 : b0 < 256) (h1 : b1 < 256) (h2 : b2 < 256) (h3 : b3 < 256) : refN n b0 b1 b2 b3 = nxN (Lib.decodeN n b0 b1 b2 b3) := by
  unfold refN nxN Lib.decodeN
  by_cases c0 : b0 < 128
  · rw [if_pos c0, if_pos c0, if_neg (by simp; omega)]
  · rw [if_neg c0, if_neg c0]
    by_cases c1 : 194 ≤ b0 ∧ b0 < 224
    · rw [if_pos c1]
      repeat' split
      all_goals first | rfl | (exfalso; omega) | (simp_all; omega) | simp_all
    · rw [if_neg c1]
      by_cases c2 : 224 ≤ b0 ∧ b0 < 240
      · rw [if_pos c2]
        repeat' split
        all_goals first | rfl | (exfalso; omega) | (simp_all; omega) | simp_all
      · rw [if_neg c2]
        by_cases c3 : 240 ≤ b0 ∧ b0 < 245
        · rw [if_pos c3]
          repeat' split
          all_goals first | rfl | (exfalso; omega) | (simp_all; omega) | simp_all
        · rw [if_neg c3]
          repeat' split
          all_goals first | rfl | (exfalso; omega) | (simp_all; omega) | simp_all

theorem lt256 (l : List UInt8) (m : Nat) : (l.getD m 0).toNat < 256 := (l.getD m 0).toNat_lt
structure At (s : ByteArray) (i b0 b1 b2 b3 : Nat) : Prop where
  h0 : b0 < 256
  h1 : b1 < 256
  h2 : b2 < 256
  h3 : b3 < 256
  hi : i < s.size
  hs : s.size ≤ 140737488351232
  e0 : bt s (i : Int) = (b0 : Int)
  e1 : bt s ((i + 1 : Nat) : Int) = (b1 : Int)
  e2 : bt s ((i + 2 : Nat) : Int) = (b2 : Int)
  e3 : bt s ((i + 3 : Nat) : Int) = (b3 : Int)
  w1 : wrap64 ((i : Int) + 1) = ((i + 1 : Nat) : Int)
  w2 : wrap64 ((i : Int) + 2) = ((i + 2 : Nat) : Int)
  w3 : wrap64 ((i : Int) + 3) = ((i + 3 : Nat) : Int)
  w4 : wrap64 ((i : Int) + 4) = ((i + 4 : Nat) : Int)
theorem v1 : wrap64 (1 + 1) = 2 := by unfold wrap64; omega
theorem v2 : wrap64 (2 + 1) = 3 := by unfold wrap64; omega
theorem v3 : wrap64 (3 + 1) = 4 := by unfold wrap64; omega
section
variable {s : ByteArray} {i b0 b1 b2 b3 : Nat}
theorem next_1 (A : At s i b0 b1 b2 b3) (c : b0 < 128) : trystref08_next.f 0 s i = some 1 := by
  have h1 : (0 : Int) ≤ (i : Int) := by omega
  have h2 : (i : Int) < (s.size : Int) := by have := A.hi; omega
  have h3 : (b0 : Int) < 128 := by omega
  simp only [trystref08_next.f, A.e0]
  rw [if_pos h1, if_pos h2, if_pos h3]
theorem l0_step (k : Nat) (x5 n x7 m b : Int) (hx : x7 < n) (hw : wrap64 ((i : Int) + x7) = m) (h0 : 0 ≤ m) (h1 : m < (s.size : Int)) (hb : bt s m = b) :
    trystref08_next.l0 (k + 1) s i x5 n x7 = if 128 ≤ b ∧ b < 192 then trystref08_next.l0 k s i x5 n (wrap64 (x7 + 1)) else some 0 := by
  simp only [trystref08_next.l0, hw, hb]
  rw [if_pos hx, if_pos h0, if_pos h1]
  by_cases c1 : b < 128
  · rw [if_pos c1, if_neg (by omega)]
  · rw [if_neg c1]
    by_cases c2 : b > 191
    · rw [if_pos c2, if_neg (by omega)]
    · rw [if_neg c2, if_pos (by omega)]
theorem l0_end (A : At s i b0 b1 b2 b3) (h : i + 1 < s.size) (k : Nat) (n x7 : Int) (hx : ¬ x7 < n) :
    trystref08_next.l0 (k + 1) s i b0 n x7 = if (b0 = 224 ∧ b1 < 160) ∨ (b0 = 237 ∧ 159 < b1) ∨ (b0 = 240 ∧ b1 < 144) ∨ (b0 = 244 ∧ 143 < b1) then some 0 else some n := by
  simp only [trystref08_next.l0, A.w1, A.e1]
  rw [if_neg hx, if_pos (show (0 : Int) ≤ ((i + 1 : Nat) : Int) by omega), if_pos (show ((i + 1 : Nat) : Int) < (s.size : Int) by omega)]
  by_cases c1 : (b0 : Int) = 224
  · rw [if_pos c1]
    by_cases d1 : (b1 : Int) < 160
    · rw [if_pos d1, if_pos (by omega)]
    · rw [if_neg d1, if_neg (show ¬ (b0 : Int) = 237 by omega), if_neg (show ¬ (b0 : Int) = 240 by omega), if_neg (show ¬ (b0 : Int) = 244 by omega), if_neg (by omega)]
  · rw [if_neg c1]
    by_cases c2 : (b0 : Int) = 237
    · rw [if_pos c2]
      by_cases d1 : (b1 : Int) > 159
      · rw [if_pos d1, if_pos (by omega)]
      · rw [if_neg d1, if_neg (show ¬ (b0 : Int) = 240 by omega), if_neg (show ¬ (b0 : Int) = 244 by omega), if_neg (by omega)]
    · rw [if_neg c2]
      by_cases c3 : (b0 : Int) = 240
      · rw [if_pos c3]
        by_cases d1 : (b1 : Int) < 144
        · rw [if_pos d1, if_pos (by omega)]
        · rw [if_neg d1, if_neg (show ¬ (b0 : Int) = 244 by omega), if_neg (by omega)]
      · rw [if_neg c3]
        by_cases c4 : (b0 : Int) = 244
        · rw [if_pos c4]
          by_cases d1 : (b1 : Int) > 143
          · rw [if_pos d1, if_pos (by omega)]
          · rw [if_neg d1, if_neg (by omega)]
        · rw [if_neg c4, if_neg (by omega)]
theorem next_2 (A : At s i b0 b1 b2 b3) (c : 194 ≤ b0 ∧ b0 < 224) : trystref08_next.f 4 s i = some ((if s.size - i < 2 then 0 else if 128 ≤ b1 ∧ b1 < 192 then 2 else 0 : Nat) : Int) := by
  have hi := A.hi
  have g5 : decide ((b0 : Int) < 224) = true := by simp; omega
  simp only [trystref08_next.f, A.e0, g5]
  rw [if_pos (show (0 : Int) ≤ (i : Int) by omega), if_pos (show (i : Int) < (s.size : Int) by omega), if_neg (show ¬ (b0 : Int) < 128 by omega), if_pos (show (b0 : Int) ≥ 194 by omega)]
  simp only [trystref08_next.j0, if_true]
  simp only [trystref08_next.j2, A.w2]
  by_cases hn : s.size - i < 2
  · rw [if_pos hn, if_pos (show ((i + 2 : Nat) : Int) > (s.size : Int) by omega)]; rfl
  · rw [if_neg hn, if_neg (show ¬ ((i + 2 : Nat) : Int) > (s.size : Int) by omega)]
    rw [l0_step 1 _ _ _ _ _ (by omega) A.w1 (by omega) (by omega) A.e1, v1]
    by_cases k1 : 128 ≤ b1 ∧ b1 < 192
    · rw [if_pos k1, if_pos (by omega), l0_end A (by omega) 0 _ _ (by omega), if_neg (by omega)]; rfl
    · rw [if_neg k1, if_neg (by omega)]; rfl
theorem next_3 (A : At s i b0 b1 b2 b3) (c : 224 ≤ b0 ∧ b0 < 240) : trystref08_next.f 6 s i = some ((if s.size - i < 3 then 0 else if (128 ≤ b1 ∧ b1 < 192) ∧ 128 ≤ b2 ∧ b2 < 192 then (if b0 = 224 ∧ b1 < 160 ∨ b0 = 237 ∧ 159 < b1 then 0 else 3) else 0 : Nat) : Int) := by
  have hi := A.hi
  have g5 : decide ((b0 : Int) < 224) = false := by simp; omega
  have g6 : decide ((b0 : Int) < 240) = true := by simp; omega
  simp only [trystref08_next.f, A.e0, g5]
  rw [if_pos (show (0 : Int) ≤ (i : Int) by omega), if_pos (show (i : Int) < (s.size : Int) by omega), if_neg (show ¬ (b0 : Int) < 128 by omega), if_pos (show (b0 : Int) ≥ 194 by omega)]
  simp only [trystref08_next.j0, g6]
  rw [if_neg (by simp), if_pos (show (b0 : Int) ≥ 224 by omega)]
  simp only [trystref08_next.j1, if_true]
  simp only [trystref08_next.j2, A.w3]
  by_cases hn : s.size - i < 3
  · rw [if_pos hn, if_pos (show ((i + 3 : Nat) : Int) > (s.size : Int) by omega)]; rfl
  · rw [if_neg hn, if_neg (show ¬ ((i + 3 : Nat) : Int) > (s.size : Int) by omega)]
    rw [l0_step 2 _ _ _ _ _ (by omega) A.w1 (by omega) (by omega) A.e1, v1]
    by_cases k1 : 128 ≤ b1 ∧ b1 < 192
    · rw [if_pos (show 128 ≤ (b1 : Int) ∧ (b1 : Int) < 192 by omega), l0_step 1 _ _ _ _ _ (by omega) A.w2 (by omega) (by omega) A.e2, v2]
      by_cases k2 : 128 ≤ b2 ∧ b2 < 192
      · rw [if_pos (show 128 ≤ (b2 : Int) ∧ (b2 : Int) < 192 by omega), l0_end A (by omega) 0 _ _ (by omega)]
        by_cases k3 : b0 = 224 ∧ b1 < 160 ∨ b0 = 237 ∧ 159 < b1
        · rw [if_pos (by omega), if_pos ⟨k1, k2⟩, if_pos k3]; rfl
        · rw [if_neg (by omega), if_pos ⟨k1, k2⟩, if_neg k3]; rfl
      · rw [if_neg (show ¬ (128 ≤ (b2 : Int) ∧ (b2 : Int) < 192) by omega), if_neg (fun h => k2 h.2)]; rfl
    · rw [if_neg (show ¬ (128 ≤ (b1 : Int) ∧ (b1 : Int) < 192) by omega), if_neg (fun h => k1 h.1)]; rfl
theorem next_4 (A : At s i b0 b1 b2 b3) (c : 240 ≤ b0 ∧ b0 < 245) : trystref08_next.f 7 s i = some ((if s.size - i < 4 then 0 else if (128 ≤ b1 ∧ b1 < 192) ∧ (128 ≤ b2 ∧ b2 < 192) ∧ 128 ≤ b3 ∧ b3 < 192 then (if b0 = 240 ∧ b1 < 144 ∨ b0 = 244 ∧ 143 < b1 then 0 else 4) else 0 : Nat) : Int) := by
  have hi := A.hi
  have g5 : decide ((b0 : Int) < 224) = false := by simp; omega
  have g6 : decide ((b0 : Int) < 240) = false := by simp; omega
  simp only [trystref08_next.f, A.e0, g5]
  rw [if_pos (show (0 : Int) ≤ (i : Int) by omega), if_pos (show (i : Int) < (s.size : Int) by omega), if_neg (show ¬ (b0 : Int) < 128 by omega), if_pos (show (b0 : Int) ≥ 194 by omega)]
  simp only [trystref08_next.j0, g6]
  rw [if_neg (by simp), if_pos (show (b0 : Int) ≥ 224 by omega)]
  simp only [trystref08_next.j1]
  rw [if_neg (by simp), if_pos (show (b0 : Int) ≥ 240 by omega), if_pos (show (b0 : Int) < 245 by omega)]
  simp only [trystref08_next.j2, A.w4]
  by_cases hn : s.size - i < 4
  · rw [if_pos hn, if_pos (show ((i + 4 : Nat) : Int) > (s.size : Int) by omega)]; rfl
  · rw [if_neg hn, if_neg (show ¬ ((i + 4 : Nat) : Int) > (s.size : Int) by omega)]
    rw [l0_step 3 _ _ _ _ _ (by omega) A.w1 (by omega) (by omega) A.e1, v1]
    by_cases k1 : 128 ≤ b1 ∧ b1 < 192
    · rw [if_pos (show 128 ≤ (b1 : Int) ∧ (b1 : Int) < 192 by omega), l0_step 2 _ _ _ _ _ (by omega) A.w2 (by omega) (by omega) A.e2, v2]
      by_cases k2 : 128 ≤ b2 ∧ b2 < 192
      · rw [if_pos (show 128 ≤ (b2 : Int) ∧ (b2 : Int) < 192 by omega), l0_step 1 _ _ _ _ _ (by omega) A.w3 (by omega) (by omega) A.e3, v3]
        by_cases k4 : 128 ≤ b3 ∧ b3 < 192
        · rw [if_pos (show 128 ≤ (b3 : Int) ∧ (b3 : Int) < 192 by omega), l0_end A (by omega) 0 _ _ (by omega)]
          by_cases k3 : b0 = 240 ∧ b1 < 144 ∨ b0 = 244 ∧ 143 < b1
          · rw [if_pos (by omega), if_pos ⟨k1, k2, k4⟩, if_pos k3]; rfl
          · rw [if_neg (by omega), if_pos ⟨k1, k2, k4⟩, if_neg k3]; rfl
        · rw [if_neg (show ¬ (128 ≤ (b3 : Int) ∧ (b3 : Int) < 192) by omega), if_neg (fun h => k4 h.2.2)]; rfl
      · rw [if_neg (show ¬ (128 ≤ (b2 : Int) ∧ (b2 : Int) < 192) by omega), if_neg (fun h => k2 h.2.1)]; rfl
    · rw [if_neg (show ¬ (128 ≤ (b1 : Int) ∧ (b1 : Int) < 192) by omega), if_neg (fun h => k1 h.1)]; rfl
theorem next_0 (A : At s i b0 b1 b2 b3) (c0 : ¬ b0 < 128) (c1 : ¬ (194 ≤ b0 ∧ b0 < 224)) (c2 : ¬ (224 ≤ b0 ∧ b0 < 240)) (c3 : ¬ (240 ≤ b0 ∧ b0 < 245)) : trystref08_next.f 2 s i = some 0 := by
  have hi := A.hi
  have g5 : decide ((b0 : Int) < 224) = false ∨ b0 < 194 := by by_cases h : b0 < 194; exact .inr h; left; simp; omega
  have g6 : decide ((b0 : Int) < 240) = false ∨ b0 < 194 := by by_cases h : b0 < 194; exact .inr h; left; simp; omega
  simp only [trystref08_next.f, A.e0]
  rw [if_pos (show (0 : Int) ≤ (i : Int) by omega), if_pos (show (i : Int) < (s.size : Int) by omega), if_neg (show ¬ (b0 : Int) < 128 by omega)]
  by_cases c4 : 194 ≤ b0
  · have g5' : decide ((b0 : Int) < 224) = false := g5.resolve_right (by omega)
    have g6' : decide ((b0 : Int) < 240) = false := g6.resolve_right (by omega)
    rw [if_pos (show (b0 : Int) ≥ 194 by omega), g5']
    simp only [trystref08_next.j0, g6']
    rw [if_neg (by simp), if_pos (show (b0 : Int) ≥ 224 by omega)]
    simp only [trystref08_next.j1]
    rw [if_neg (by simp), if_pos (show (b0 : Int) ≥ 240 by omega), if_neg (show ¬ (b0 : Int) < 245 by omega)]
  · rw [if_neg (show ¬ (b0 : Int) ≥ 194 by omega)]
    simp only [trystref08_next.j0]
    rw [if_neg (by simp), if_neg (show ¬ (b0 : Int) ≥ 224 by omega)]
    simp only [trystref08_next.j1]
    rw [if_neg (by simp), if_neg (show ¬ (b0 : Int) ≥ 240 by omega)]
end
/-- How many bytes the code point at the head has; 0: it is none. -/
def nx (l : List UInt8) : Nat := nxN (Lib.decodeL l)
theorem next_ev (s : ByteArray) (i : Nat) (hi : i < s.size) (hs : s.size ≤ 140737488351232) : Ev (fun k => trystref08_next.f k s i) ((nx (s.data.toList.drop i) : Nat) : Int) := by
  have A : At s i (s.data.toList.getD i 0).toNat (s.data.toList.getD (i + 1) 0).toNat (s.data.toList.getD (i + 2) 0).toNat (s.data.toList.getD (i + 3) 0).toNat :=
    ⟨lt256 _ _, lt256 _ _, lt256 _ _, lt256 _ _, hi, hs, bt_nat s i, bt_nat s (i + 1), bt_nat s (i + 2), bt_nat s (i + 3), wrap_nat i 1 (by omega), wrap_nat i 2 (by omega), wrap_nat i 3 (by omega), wrap_nat i 4 (by omega)⟩
  have hd : nx (s.data.toList.drop i) = refN (s.size - i) (s.data.toList.getD i 0).toNat (s.data.toList.getD (i + 1) 0).toNat (s.data.toList.getD (i + 2) 0).toNat (s.data.toList.getD (i + 3) 0).toNat := by
    rw [refN_eq _ _ _ _ _ (by omega) A.h0 A.h1 A.h2 A.h3]
    unfold nx
    rw [Lib.decodeL_N, List.length_drop, Lib.getD_dropU, Lib.getD_dropU, Lib.getD_dropU, Lib.getD_dropU]
    simp
  rw [hd]
  unfold refN
  generalize (s.data.toList.getD i 0).toNat = b0 at *
  generalize (s.data.toList.getD (i + 1) 0).toNat = b1 at *
  generalize (s.data.toList.getD (i + 2) 0).toNat = b2 at *
  generalize (s.data.toList.getD (i + 3) 0).toNat = b3 at *
  have M := fun k => trystref08_next.mono s i k
  by_cases c0 : b0 < 128
  · rw [if_pos c0]; exact Ev.of M (next_1 A c0)
  rw [if_neg c0]
  by_cases c1 : 194 ≤ b0 ∧ b0 < 224
  · rw [if_pos c1]; exact Ev.of M (next_2 A c1)
  rw [if_neg c1]
  by_cases c2 : 224 ≤ b0 ∧ b0 < 240
  · rw [if_pos c2]; exact Ev.of M (next_3 A c2)
  rw [if_neg c2]
  by_cases c3 : 240 ≤ b0 ∧ b0 < 245
  · rw [if_pos c3]; exact Ev.of M (next_4 A c3)
  rw [if_neg c3]; exact Ev.of M (next_0 A c0 c1 c2 c3)
theorem decL_pos (l : List UInt8) (hne : l ≠ []) : 1 ≤ (Lib.decodeL l).2 := by
  unfold Lib.decodeL
  refine Lib.decode_width_pos _ 0 ?_
  show 0 < l.toArray.size
  rw [List.size_toArray]
  exact List.length_pos_iff.2 hne
theorem nx_bad (l : List UInt8) (hne : l ≠ []) : nx l = 0 ↔ (Lib.decodeL l).1 = 65533 ∧ (Lib.decodeL l).2 = 1 := by
  have h1 := decL_pos l hne
  unfold nx nxN
  constructor
  · intro h
    split at h
    · rename_i h2; rw [h2]; exact ⟨rfl, rfl⟩
    · omega
  · rintro ⟨h2, h3⟩
    rw [if_pos (by cases hd : Lib.decodeL l; rw [hd] at h2 h3; simp at h2 h3; rw [h2, h3])]
theorem nx_good (l : List UInt8) (h : ¬ ((Lib.decodeL l).1 = 65533 ∧ (Lib.decodeL l).2 = 1)) : nx l = (Lib.decodeL l).2 := by
  unfold nx nxN
  rw [if_neg (fun e => h (by rw [e]; exact ⟨rfl, rfl⟩))]
theorem UTF_ev (s : ByteArray) (hs : s.size ≤ 140737488351232) : ∀ (n i : Nat), s.size - i ≤ n → i ≤ s.size → Ev (fun k => trystref08_UTF.l0 k s i) (Lib.validD (s.data.toList.drop i))
  | 0, i, h, hi => by
    obtain rfl : i = s.size := by omega
    refine Ev.step (f := fun _ => some true) (fun k => ?_) ?_
    · simp only [trystref08_UTF.l0]; rw [if_neg (by omega)]
    · rw [List.drop_of_length_le (by simp)]; exact Ev.now true
  | n + 1, i, h, hi => by
    by_cases hlt : i < s.size
    · have hne : s.data.toList.drop i ≠ [] := by
        intro e; have := congrArg List.length e; simp at this; omega
      have hn := next_ev s i hlt hs
      have hle := Lib.decodeL_le (s.data.toList.drop i) hne
      have hpos := decL_pos _ hne
      rw [List.length_drop] at hle
      have hsz : s.data.toList.length = s.size := by simp
      rw [Lib.validD_step _ hne]
      refine Ev.step (f := fun k => (trystref08_next.f k s i).bind fun t => if t = 0 then some false else trystref08_UTF.l0 k s (wrap64 ((i : Int) + t))) (fun k => ?_) ?_
      · simp only [trystref08_UTF.l0]; rw [if_pos (by omega)]
      · refine Ev.bind hn ?_
        by_cases hbad : (Lib.decodeL (s.data.toList.drop i)).1 = 65533 ∧ (Lib.decodeL (s.data.toList.drop i)).2 = 1
        · rw [if_pos hbad, (nx_bad _ hne).2 hbad]
          simp only [Int.natCast_zero, if_true]
          exact Ev.now false
        · rw [if_neg hbad, nx_good _ hbad, List.drop_drop]
          simp only [if_neg (show ¬ (((Lib.decodeL (s.data.toList.drop i)).2 : Nat) : Int) = 0 by omega)]
          rw [wrap_nat i _ (by omega)]
          exact UTF_ev s hs n _ (by omega) (by omega)
    · obtain rfl : i = s.size := by omega
      refine Ev.step (f := fun _ => some true) (fun k => ?_) ?_
      · simp only [trystref08_UTF.l0]; rw [if_neg (by omega)]
      · rw [List.drop_of_length_le (by simp)]; exact Ev.now true
theorem UTF_all (s : ByteArray) (hs : s.size ≤ 140737488351232) : Ev (fun k => trystref08_UTF.f k s) (Lib.validD s.data.toList) := by
  have := UTF_ev s hs s.size 0 (by omega) (by omega)
  exact this
theorem drop_at (s : ByteArray) (k : Nat) (h : k < s.size) : s.data.toList.drop k = s.data.toList.getD k 0 :: s.data.toList.drop (k + 1) := by
  rw [List.drop_eq_getElem_cons (by simpa using h)]
  rw [List.getD_eq_getElem?_getD, List.getElem?_eq_getElem (by simpa using h)]; rfl
theorem ne_nat (c : UInt8) (n : Nat) (hn : n < 256) (h : c ≠ n.toUInt8) : ¬ (c.toNat : Int) = (n : Int) :=
  fun e => h (by apply UInt8.toNat_inj.1; have : c.toNat = n := by omega
                 rw [this]; simp; omega)
end Go.Proofs.YtknmbalhbecdhaaDoor.Pure
