/- strings.IndexRune at a rune beyond ASCII in a text of ASCII alone (-1), and strings.IndexAny, strings.ContainsAny at every text and an ASCII cutset of two signs or more. -/
import Derived.Test.YtknmbalhbecdhaaDoorShelf
import Derived.WalkKit
import Derived.WalkSpells
import Derived.Laws.Runes
import Derived.Laws.RangeAny
import Derived.Laws.RangeString
import Derived.Lib.IndexAny
import Derived.Lib.SpaceUEq
import Derived.Lib.RuneCount
import Derived.Lib.QuoteLoop
import Derived.Lib.Hide
import Derived.Lib.OthersKept
import Derived.Lib.DecodeN
import Derived.BigQuiet
import Derived.IntWalk
import Derived.Deep.QuietTactic
set_option linter.unusedVariables false
set_option linter.unusedSimpArgs false
namespace Go.Proofs.YtknmbalhbecdhaaDoor.Rune
open Go.RowKit

theorem Drawn2.below (w : World) (n : Nat) : Below w.heap.size w (w.drewN n) := ⟨rfl, rfl, rfl, Nat.le_refl _, fun _ _ => rfl⟩
theorem quiet_add_same {P : Program} {f : FuncId} {args : Array Value} {w : World} {a n : Nat} {v : Value}
    (h : Calls P f args (w.drewN (a + n)) fun e w' => e = .returned v ∧ w' = w.drewN (a + n)) :
    Calls P f args (w.drewN (a + n)) fun e w'' => e = .returned v ∧ ∃ m, w'' = w.drewN (a + m) :=
  h.mono fun _ _ ⟨he, hm⟩ => ⟨he, n, hm⟩
theorem indexByte_none (l : List UInt8) (c : UInt8) (h : ∀ b ∈ l, b ≠ c) : Lib.indexByte l c = -1 := by
  induction l with
  | nil => rfl
  | cons b t ih =>
    have h1 : (b == c) = false := beq_eq_false_iff_ne.2 (h b (by simp))
    have h2 := ih (fun x hx => h x (by simp [hx]))
    unfold Lib.indexByte
    rw [h1, h2]; rfl
theorem allx (chars : ByteArray) (hs : ∀ b ∈ chars.data.toList, b.toNat < 128) (a e : Nat) (c : UInt8) (hc : 128 ≤ c.toNat) : Lib.indexByte (chars.extract a e).data.toList c = -1 :=
  indexByte_none _ _ fun b hb hbc => by have := hs b (mem_extract hb); rw [hbc] at this; omega
theorem at_lt (chars : ByteArray) (hs : ∀ b ∈ chars.data.toList, b.toNat < 128) (i : Nat) (h : i < chars.size) : (chars[i]'h).toNat < 128 :=
  hs _ (Array.getElem_mem_toList (xs := chars.data) h)

set_option maxHeartbeats 2000000 in
set_option maxRecDepth 100000 in
theorem IndexRune_fffd (chars : ByteArray) (hs : ∀ b ∈ chars.data.toList, b.toNat < 128) (w : World) :
    Calls Tryd.prog 82 #[.string chars, .int .i32 65533] w fun e w' => e = .returned (.int .i64 (-1)) ∧ Below w.heap.size w w' := by
  have HS := Lib.hid hs
  clear hs
  go_enter Tryd.func82, Tryd.ntmps82
  go_wp2
  go_loopg [5, 6] chars.size (fun g _ _ wx => ∃ i : Nat, i + g = chars.size ∧ wx = w.iter chars i)
  case atStart => exact ⟨0, by omega, rfl⟩
  case round =>
    obtain ⟨i, hig, rfl⟩ := hrel
    cases gk with
    | zero =>
      obtain rfl : i = chars.size := by omega
      have hnx := run_next_end (P := Tryd.prog) w chars chars.size
      go_wp2
      go_ret
      exact ⟨rfl, (Below.refl _ _).alloc (Nat.le_refl _) _⟩
    | succ g =>
      have hi : i < chars.size := by omega
      have hx128 := at_lt chars HS.out i hi
      obtain ⟨x, hx⟩ : ∃ x : UInt8, chars[i]'hi = x := ⟨_, rfl⟩
      have hnx := fun ty => run_next_ascii (P := Tryd.prog) w chars i ty hi hx128
      rw [hx] at hnx hx128
      have hne : ((x.toNat : Int) == 65533) = false := beq_eq_false_iff_ne.2 (by omega)
      clear hx
      go_wp2
      go_roundg g
      case measure => omega
      case rel => exact ⟨i + 1, by omega, rfl⟩
set_option maxHeartbeats 4000000 in
set_option maxRecDepth 100000 in
theorem IndexRune_high (chars : ByteArray) (hs : ∀ b ∈ chars.data.toList, b.toNat < 128) (hc : chars.size ≤ 1000) (r : Int) (h0 : 128 ≤ r) (hv : validRune r = true) (hne : r ≠ 65533) (w : World) :
    Calls Tryd.prog 82 #[.string chars, .int .i32 r] w fun e w' => e = .returned (.int .i64 (-1)) ∧ Below w.heap.size w w' := by
  have HS := Lib.hid hs
  clear hs
  obtain ⟨h2, h4, hlast⟩ := encode_facts r (by rw [validRune_eq]; exact hv) h0
  have HV : Lib.validRune r = true := hv
  generalize he : Utf8.encode r = rs at *
  have hlt0 : rs.size - 1 < rs.size := by omega
  have hl128 := hlast hlt0
  clear hlast
  have HE := Lib.hid he
  have HVh := Lib.hid HV
  have HNE := Lib.hid hne
  clear he HV hv hne
  have t1 : decide (0 ≤ r) = true := by simp; omega
  have t2 : decide (r < 128) = false := by simp; omega
  have t3 : (r == 65533) = false := beq_eq_false_iff_ne.2 HNE.out
  obtain ⟨last, hlast⟩ : ∃ n : Nat, n = rs.size - 1 := ⟨_, rfl⟩
  have e1 : rs.size = last + 1 := by omega
  have hw1 : IntKind.i64.wrap ((rs.size : Int) - 1) = (last : Int) := by rw [e1]; unfold IntKind.wrap; simp [IntKind.bits, IntKind.signed]; omega
  have E1 := Lib.hid e1
  clear hlast
  have hlr : last < rs.size := by omega
  obtain ⟨x, hx⟩ : ∃ x : UInt8, rs[last]'hlr = x := ⟨_, rfl⟩
  have hx128 : 128 ≤ x.toNat := by rw [← hx]; have h9 := hl128; simp only [e1, Nat.add_sub_cancel] at h9; exact h9
  clear hl128 e1 hlt0
  by_cases hin : last < chars.size
  · have hy128 := at_lt chars HS.out last hin
    obtain ⟨y, hy⟩ : ∃ y : UInt8, chars[last]'hin = y := ⟨_, rfl⟩
    rw [hy] at hy128
    have hyx : ((y.toNat : Int) == (x.toNat : Int)) = false := beq_eq_false_iff_ne.2 (by omega)
    have hyx' : ((y.toNat : Int) != (x.toNat : Int)) = true := bne_iff_ne.2 (by omega)
    have hd1 : decide ((last : Int) < (chars.size : Int)) = true := by simp; omega
    have hd2 : decide (last < chars.size) = true := by simp; omega
    have w2 : IntKind.i64.wrap ((last : Int) + 1) = (last : Int) + 1 := by unfold IntKind.wrap; simp [IntKind.bits, IntKind.signed]; omega
    go_enter Tryd.func82, Tryd.ntmps82
    go_wp2_with (first | (go_at_call 98; refine (Tryd.utf8_ValidRune r _).mono ?_; rintro e w' ⟨rfl, hw⟩; rw [hw, HVh.out]; clear hw))
    have he := HE.out
    have e1 := E1.out
    go_step3
    go_wp2
    clear he e1
    refine wp_loop_rounds 1 ?_
    rw [rounds_succ]
    go_wp2
    go_step3
    go_wp2
    go_quiet (fail)
    go_wp2
    have hle : last + 1 ≤ chars.size := by omega
    have hle2 : (last : Int) + 1 ≤ (chars.size : Int) := by omega
    have h01 : (0 : Int) ≤ (last : Int) + 1 := by omega
    have hsl : ((last : Int) + 1).toNat = last + 1 := by omega
    have hix := allx chars HS.out (last + 1) chars.size x hx128
    have hix2 : Lib.indexByte (chars.extract (last + 1) chars.size).data.toList ((x.toNat : Int)).toNat.toUInt8 = -1 := by rw [← hix]; congr 1; simp
    go_quiet ((go_at_call 44; exact quiet_add_same (Tryd.strings_IndexByte _ _ _)))
    rw [hix2]
    go_wp2
    rw [Exit.noGoto_ret]
    go_wp2
    rw [Exit.noGoto_ret]
    go_ret
    exact ⟨rfl, (Drawn2.below _ _)⟩
  · have hd1 : decide ((last : Int) < (chars.size : Int)) = false := by simp; omega
    have hd2 : decide (last < chars.size) = false := by simp; omega
    go_enter Tryd.func82, Tryd.ntmps82
    go_wp2_with (first | (go_at_call 98; refine (Tryd.utf8_ValidRune r _).mono ?_; rintro e w' ⟨rfl, hw⟩; rw [hw, HVh.out]; clear hw))
    have he := HE.out
    have e1 := E1.out
    go_step3
    go_wp2
    clear he e1
    refine wp_loop_rounds 1 ?_
    rw [rounds_succ]
    go_wp2
    rw [Exit.noGoto_ret]
    go_ret
    exact ⟨rfl, Below.refl _ _⟩
theorem IndexRune_any (chars : ByteArray) (hs : ∀ b ∈ chars.data.toList, b.toNat < 128) (hc : chars.size ≤ 1000) (r : Nat) (h0 : 128 ≤ r) (hv : validRune (r : Int) = true) (w : World) :
    Calls Tryd.prog 82 #[.string chars, .int .i32 r] w fun e w' => e = .returned (.int .i64 (-1)) ∧ Below w.heap.size w w' := by
  by_cases h : r = 65533
  · subst h; exact IndexRune_fffd chars hs w
  · exact IndexRune_high chars hs hc r (by omega) hv (by omega) w
structure Aside0 (p : Prop) : Prop where mk :: (out : p)
theorem below_iterAt {B : Nat} {a w : World} (h : Below B a w) (k : Nat) (hk : B ≤ k) (s : ByteArray) (p : Nat) : Below B a (w.iterAt k s p) := by
  refine ⟨h.os, h.tape, h.output, ?_, fun i hi => ?_⟩
  · have := h.size; simpa [World.iterAt] using this
  · have h1 := h.block i hi
    rw [← h1]
    simp only [World.iterAt]
    rw [Array.getElem?_setIfInBounds_ne (by omega)]
theorem get!_at (s : ByteArray) (i : Nat) (h : i < s.size) : s.get! i = s[i]'h := by
  have : s[i]! = s[i]'h := getElem!_pos s i h
  cases s with | mk a => simp [ByteArray.get!] at *; exact getElem!_pos a i h
theorem dec_high (s : ByteArray) (i : Nat) (h : i < s.size) (hb : 128 ≤ (s[i]'h).toNat) :
    1 ≤ (Utf8.decode s i).2 ∧ i + (Utf8.decode s i).2 ≤ s.size ∧ (∀ j b, i ≤ j → j < i + (Utf8.decode s i).2 → s.data.toList[j]? = some b → 128 ≤ b.toNat) ∧ 128 ≤ (Utf8.decode s i).1 ∧ validRune ((Utf8.decode s i).1 : Int) = true := by
  have hpos := Lib.decode_width_pos s i h
  rw [Lib.decode_at] at *
  have hb0 : 128 ≤ (s.get! i).toNat := by rw [get!_at s i h]; exact hb
  have k0 := (s.get! i).toNat_lt
  have hle := Lib.decodeN_width_le (s.size - i) (s.get! i).toNat (s.get! (i + 1)).toNat (s.get! (i + 2)).toNat (s.get! (i + 3)).toNat (by omega)
  have hc := Lib.decodeN_conts (s.size - i) (s.get! i).toNat (s.get! (i + 1)).toNat (s.get! (i + 2)).toNat (s.get! (i + 3)).toNat
  have hv := Lib.decodeN_valid (s.size - i) (s.get! i).toNat (s.get! (i + 1)).toNat (s.get! (i + 2)).toNat (s.get! (i + 3)).toNat k0
  have hcs := Lib.decodeN_cases (s.size - i) (s.get! i).toNat (s.get! (i + 1)).toNat (s.get! (i + 2)).toNat (s.get! (i + 3)).toNat
  generalize Lib.decodeN (s.size - i) (s.get! i).toNat (s.get! (i + 1)).toNat (s.get! (i + 2)).toNat (s.get! (i + 3)).toNat = d at *
  obtain ⟨r, n⟩ := d
  simp only at *
  refine ⟨hpos, by omega, fun j b hj1 hj2 hb' => ?_, ?_, ?_⟩
  · obtain ⟨hlt, hbe⟩ := List.getElem?_eq_some_iff.1 hb'
    have hjs : j < s.size := by omega
    have e : s.get! j = b := by rw [get!_at s j hjs, ← hbe]; rfl
    obtain rfl | rfl | rfl | rfl : j = i ∨ j = i + 1 ∨ j = i + 2 ∨ j = i + 3 := by omega
    · rw [← e]; exact hb0
    · rw [← e]; have := hc.1 (by omega); omega
    · rw [← e]; have := hc.2.1 (by omega); omega
    · rw [← e]; have := hc.2.2.1 (by omega); omega
  · rcases hcs with h1 | h1 | h1 | h1 | h1
    · omega
    · have := h1.2.2.2.2; simp at this; omega
    · have := h1.2.2.2.2.2; simp at this; omega
    · omega
    · have := h1; simp at this; omega
  · unfold validRune
    simp
    omega
theorem contains_high (chars : List UInt8) (hs : ∀ b ∈ chars, b.toNat < 128) (b : UInt8) (hb : 128 ≤ b.toNat) : chars.contains b = false := by
  cases h : chars.contains b
  · rfl
  · have := hs b (by simpa using h); omega
theorem noAny_high {s chars : List UInt8} (hs : ∀ b ∈ chars, b.toNat < 128) {i n : Nat} (h : Lib.NoAny s chars i) (hb : ∀ j b, i ≤ j → j < i + n → s[j]? = some b → 128 ≤ b.toNat) : Lib.NoAny s chars (i + n) := fun j b hj hx => by
  by_cases hji : j < i
  · exact h j b hji hx
  · exact contains_high chars hs b (hb j b (by omega) hj hx)
set_option maxHeartbeats 4000000 in
set_option maxRecDepth 100000 in
theorem IndexAny_short (s chars : ByteArray) (hs : ∀ b ∈ chars.data.toList, b.toNat < 128) (h2 : 2 ≤ chars.size) (hc : chars.size ≤ 1000) (h8 : s.size ≤ 8) (w : World) :
    Calls Tryd.prog 67 #[.string s, .string chars] w fun e w' => e = .returned (.int .i64 (Lib.indexAny s.data.toList chars.data.toList)) ∧ Below w.heap.size w w' := by
  have HS := Lib.hid hs
  clear hs
  have hemp : chars.toList.isEmpty = false := by
    rw [Lib.toList_data]
    cases h : chars.data.toList with
    | nil => have := Lib.size_eq chars; rw [h, List.length_nil] at this; omega
    | cons _ _ => rfl
  have hn1 : ((chars.size : Int) == 1) = false := beq_eq_false_iff_ne.2 (by omega)
  have h8z : decide ((8 : Int) < (s.size : Int)) = false := decide_eq_false (by omega)
  go_enter Tryd.func67, Tryd.ntmps67
  go_wp2_with (go_at_call 83; refine (Tryd.strings_shouldUseASCIISet _ _).mono ?_; rintro e w' ⟨rfl, hw⟩; rw [hw, h8z]; clear hw)
  go_loopg [9, 10] s.size (fun g _ _ wx => ∃ i : Nat, i ≤ s.size ∧ s.size ≤ i + g ∧ Aside0 (Below w.heap.size w wx) ∧ Aside0 (wx.heap[w.heap.size]? = some (.stringIter s i)) ∧ Aside0 (Lib.NoAny s.data.toList chars.data.toList i))
  case atStart => exact ⟨0, by omega, by omega, ⟨(Below.refl _ _).alloc (Nat.le_refl _) _⟩, ⟨World.iter_heap _ _ _⟩, ⟨Lib.NoAny.zero _ _⟩⟩
  case round =>
    obtain ⟨i, hig, hgs, HB, HI, HN⟩ := hrel
    by_cases hi : i < s.size
    · cases gk with
      | zero => omega
      | succ g =>
        by_cases hx128 : (s[i]'hi).toNat < 128
        · obtain ⟨x, hx⟩ : ∃ x : UInt8, s[i]'hi = x := ⟨_, rfl⟩
          have hxl : s.data.toList[i]? = some x := by rw [← hx]; exact Lib.data_getElem? s i hi
          have hnx := fun ty => Lib.run_next_ascii_at (P := Tryd.prog) wr w.heap.size s i ty HI.out hi hx128
          rw [hx] at hnx hx128
          have Hx : Aside0 (s.data.toList[i]? = some x) := ⟨hxl⟩
          clear hxl hx
          have hcon := Lib.contains_iff_indexByte chars.data.toList x
          have hback : ((x.toNat : Int)).toNat.toUInt8 = x := by simp
          have HB2 : Aside0 (Below w.heap.size w (wr.iterAt w.heap.size s (i + 1))) := ⟨below_iterAt HB.out _ (Nat.le_refl _) _ _⟩
          have HI2 : Aside0 ((wr.iterAt w.heap.size s (i + 1)).heap[w.heap.size]? = some (.stringIter s (i + 1))) := ⟨Lib.iterAt_heap wr _ s i (i + 1) HI.out⟩
          cases hin : chars.data.toList.contains x
          · rw [hin] at hcon
            have hlt : ¬ ((0 : Int) ≤ Lib.indexByte chars.data.toList x) := of_decide_eq_false hcon.symm
            clear hcon
            go_wp2_with (go_at_call 82; refine (Tryd.strings_IndexRune_ascii _ _ _ (by omega) (by omega)).mono ?_; rintro e w' ⟨rfl, hw⟩; rw [hw, hback]; clear hw)
            go_roundg g
            case measure => omega
            case rel => exact ⟨i + 1, by omega, by omega, HB2, HI2, ⟨HN.out.succ Hx.out hin⟩⟩
          · rw [hin] at hcon
            have hge : (0 : Int) ≤ Lib.indexByte chars.data.toList x := of_decide_eq_true hcon.symm
            clear hcon
            go_wp2_with (go_at_call 82; refine (Tryd.strings_IndexRune_ascii _ _ _ (by omega) (by omega)).mono ?_; rintro e w' ⟨rfl, hw⟩; rw [hw, hback]; clear hw)
            go_ret
            exact ⟨by rw [Lib.indexAny_hit HN.out Hx.out hin]; rfl, HB2.out⟩
        · obtain ⟨d1, d2, d3, d4, d5⟩ := dec_high s i hi (by omega)
          have hnx := fun ty => Lib.run_next_any_at (P := Tryd.prog) wr w.heap.size s i ty HI.out hi
          generalize hd : Utf8.decode s i = d at *
          obtain ⟨r, n⟩ := d
          simp only at *
          have HB2 : Aside0 (Below w.heap.size w (wr.iterAt w.heap.size s (i + n))) := ⟨below_iterAt HB.out _ (Nat.le_refl _) _ _⟩
          have HI2 : Aside0 ((wr.iterAt w.heap.size s (i + n)).heap[w.heap.size]? = some (.stringIter s (i + n))) := ⟨Lib.iterAt_heap wr _ s i (i + n) HI.out⟩
          have HN2 : Aside0 (Lib.NoAny s.data.toList chars.data.toList (i + n)) := ⟨noAny_high HS.out HN.out d3⟩
          clear hd d3
          have hneg : decide ((0 : Int) ≤ -1) = false := by decide
          have hlt2 : w.heap.size < (wr.iterAt w.heap.size s (i + n)).heap.size := (Array.getElem?_eq_some_iff.1 HI2.out).1
          go_wp2_with (go_at_call 82; refine (IndexRune_any chars HS.out hc r (by omega) d5 _).mono ?_; rintro e w' ⟨rfl, hb⟩)
          go_roundg g
          case measure => omega
          case rel => exact ⟨i + n, by omega, by omega, ⟨HB2.out.trans (hb.mono (by omega))⟩, ⟨(hb.block _ hlt2).trans HI2.out⟩, HN2⟩
    · have hnx := fun ty => Lib.run_next_end_at (P := Tryd.prog) wr w.heap.size s i ty HI.out hi
      go_wp2
      go_ret
      exact ⟨by rw [Lib.indexAny_none (by rw [← Lib.size_eq]; have : i = s.size := by omega
                                          rw [← this]; exact HN.out)]; rfl, HB.out⟩
end Go.Proofs.YtknmbalhbecdhaaDoor.Rune
