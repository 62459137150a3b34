/- (*line.reader).value: walked by hand. -/
import Derived.Test.YtknmbalhbecdhaaDoorRName
import Derived.Test.YtknmbalhbecdhaaDoorPrint2
import Derived.Lib.IndexLaws
set_option linter.unusedVariables false
set_option linter.unusedSimpArgs false
namespace Go.Proofs.YtknmbalhbecdhaaDoor.Print
open Go.RowKit Go.Proofs.YtknmbalhbecdhaaDoorW.PrintWords Go.Proofs.YtknmbalhbecdhaaDoorW.PrintLast Go.Proofs.YtknmbalhbecdhaaDoorW.PrintMore

/-- Bytes of a value that isn't quoted. -/
def plainV (c : UInt8) : Bool := !(c == 58 || c == 59 || c == 44 || c == 34)
/-- How long a value is that begins here; none: its quote isn't closed. -/
def valEnd (l : List UInt8) : Option Nat := if l.head? = some 34 then (if Lib.indexByte (l.drop 1) 34 < 0 then none else some ((Lib.indexByte (l.drop 1) 34).toNat + 2)) else some ((l.takeWhile plainV).length)
def line_reader_value.f (k : Nat) (s0_0 : ByteArray) (s0_1 : Int) (s0_2 : Int) : Option (ByteArray × ByteArray × Int × Int) :=
  if s0_2 = 0 ∧ 0 ≤ s0_1 ∧ s0_1 ≤ (s0_0.size : Int) ∧ s0_0.size ≤ 4611686018427387904 then
    (match valEnd (s0_0.data.toList.drop s0_1.toNat) with
     | none => some (⟨#[]⟩, s0_0, (s0_0.size : Int), 5)
     | some n => (escape_Value.f k (s0_0.extract s0_1.toNat (s0_1.toNat + n))).bind fun p => some (p.1, s0_0, if p.2 = 0 then ((s0_1.toNat + n : Nat) : Int) else s0_1, if p.2 = 0 then 0 else 7))
  else none
theorem plain_idx (c : UInt8) : Lib.indexByte [58, 59, 44, 34] c < 0 ↔ plainV c = true := by
  have h : ∀ c : Fin 256, Lib.indexByte [58, 59, 44, 34] (UInt8.ofFin c) < 0 ↔ plainV (UInt8.ofFin c) = true := by decide +kernel
  exact h c.toFin
theorem idx_lt (l : List UInt8) (c : UInt8) (h : 0 ≤ Lib.indexByte l c) : Lib.indexByte l c < l.length := by
  obtain ⟨o, ho⟩ : ∃ o : Nat, Lib.indexByte l c = o := ⟨(Lib.indexByte l c).toNat, by omega⟩
  have := (List.getElem?_eq_some_iff.1 (Lib.indexByte_some ho).1).1
  omega
theorem peek_at (s : ByteArray) (b : Nat) (c : UInt8) (hb : b < s.size) (hc : s[b] = c) : line_reader_peek.f s b 0 = some (((c.toNat : Nat) : Int), s, (b : Int), 0) := by
  unfold line_reader_peek.f
  rw [if_pos rfl, if_neg (show ¬ (b : Int) ≥ (s.size : Int) by omega), if_pos (show (0 : Int) ≤ (b : Int) by omega), if_pos (show (b : Int) < (s.size : Int) by omega)]
  have h := bt_at s (b : Int) (by simpa using hb)
  rw [← h]
  simp [hc]
theorem peek_end (s : ByteArray) (b : Nat) (hb : s.size ≤ b) : line_reader_peek.f s b 0 = some (0, s, (b : Int), 0) := by
  unfold line_reader_peek.f
  rw [if_pos rfl, if_pos (show (b : Int) ≥ (s.size : Int) by omega)]
set_option maxHeartbeats 8000000 in
set_option maxRecDepth 100000 in
theorem value_open (g : Nat) (s : ByteArray) (b : Nat) (w0 w : World) (hG : GG w0) (hI : IsS121 w0 w g s b 0) (hB : Below w0.heap.size w0 w) (hs : s.size ≤ 4611686018427387904) (hb : b < s.size) (hc : s[b] = 34) (hx : Lib.indexByte (s.extract (b + 1) s.size).data.toList 34 < 0) (r1 : ByteArray) (r3 r4 : Int) (hr : r1 = ⟨#[]⟩ ∧ r3 = (s.size : Int) ∧ r4 = 5) :
    Calls Tryd.prog 96 #[.pointer (some ⟨g, 0, none⟩)] w fun e w' => e = .returned (.string r1) ∧ IsS121 w0 w' g s r3 r4 ∧ Below w0.heap.size w0 w' ∧ KeepBut w w' g none := by
  obtain ⟨rfl, rfl, rfl⟩ := hr
  have hpk : line_reader_peek.f s b 0 = some (34, s, (b : Int), 0) := peek_at s b 34 hb hc
  obtain ⟨x, hxe⟩ : ∃ x, x = Lib.indexByte (s.extract (b + 1) s.size).data.toList 34 := ⟨_, rfl⟩
  have HX := Aside0.mk (fun W => (show Calls Tryd.prog 44 #[.string (s.extract (b + 1) s.size), .int .u8 34] W fun e w' => e = .returned (.int .i64 x) ∧ w' = W from by rw [hxe]; exact Tryd.strings_IndexByte _ 34 W))
  rw [← hxe] at hx
  clear hxe hc
  have HI := Aside0.mk hI
  have HB := Aside0.mk hB
  have HGG := Aside0.mk hG
  have hge := hI.ge
  have hcz0 := cellS121_0 hI.1
  have hcz1 := cellS121_1 hI.1
  have hcz2 := cellS121_2 hI.1
  clear hI hB hG
  go_enter Tryd.func96, Tryd.ntmps96
  go_wp2_with (go_at_call 76; refine (line_reader_peek.calls g s b 0 34 s b 0 w0 _ HGG.out HI.out HB.out hpk).mono ?_; rintro e w1 ⟨rfl, hI1, hB1, hK1⟩; have HI1 := Aside0.mk hI1; have HB1 := Aside0.mk hB1; have HK1 := Aside0.mk hK1; have hcz0 := cellS121_0 hI1.1; have hcz1 := cellS121_1 hI1.1; have hcz2 := cellS121_2 hI1.1; have hfz1 := blk_frozen hI1.1 1; clear hI1 hB1 hK1 hpk)
  go_wp2_with (go_at_call 44; refine (HX.out _).mono ?_; rintro e w' ⟨rfl, rfl⟩)
  go_wp2_with (go_at_call 78; refine (line_reader_wrong.calls g s b 0 5 s.size s s.size 5 w0 _ HGG.out HI1.out HB1.out rfl).mono ?_; rintro e w2 ⟨rfl, hI2, hB2, hK2⟩; have HI2 := Aside0.mk hI2; have HB2 := Aside0.mk hB2; have HK2 := Aside0.mk hK2; clear hI2 hB2 hK2)
  go_ret
  exact ⟨rfl, HI2.out, HB2.out, HK1.out.trans HK2.out (.inl rfl)⟩
set_option maxHeartbeats 8000000 in
set_option maxRecDepth 100000 in
theorem value_quo (g : Nat) (s : ByteArray) (b : Nat) (w0 w : World) (hG : GG w0) (hI : IsS121 w0 w g s b 0) (hB : Below w0.heap.size w0 w) (hs : s.size ≤ 4611686018427387904) (hb : b < s.size) (hc : s[b] = 34) (n : Nat) (hx : Lib.indexByte (s.extract (b + 1) s.size).data.toList 34 = n) (hn : b + n + 2 ≤ s.size) (k : Nat) (r1 : ByteArray) (er : Int) (hv : Aside0 (escape_Value.f k (s.extract b (b + n + 2)) = some (r1, er))) (r3 r4 : Int) (hr : Aside0 ((er = 0 → r3 = ((b + n + 2 : Nat) : Int) ∧ r4 = 0) ∧ (er ≠ 0 → r3 = (b : Int) ∧ r4 = 7))) :
    Calls Tryd.prog 96 #[.pointer (some ⟨g, 0, none⟩)] w fun e w' => e = .returned (.string r1) ∧ IsS121 w0 w' g s r3 r4 ∧ Below w0.heap.size w0 w' ∧ KeepBut w w' g none := by
  have hpk : line_reader_peek.f s b 0 = some (34, s, (b : Int), 0) := peek_at s b 34 hb hc
  have HX := Aside0.mk (fun W => (show Calls Tryd.prog 44 #[.string (s.extract (b + 1) s.size), .int .u8 34] W fun e w' => e = .returned (.int .i64 (n : Int)) ∧ w' = W from by rw [← hx]; exact Tryd.strings_IndexByte _ 34 W))
  clear hx hc
  have HI := Aside0.mk hI
  have HB := Aside0.mk hB
  have HGG := Aside0.mk hG
  have hge := hI.ge
  have hcz0 := cellS121_0 hI.1
  have hcz1 := cellS121_1 hI.1
  have hcz2 := cellS121_2 hI.1
  clear hI hB hG
  go_enter Tryd.func96, Tryd.ntmps96
  go_wp2_with (go_at_call 76; refine (line_reader_peek.calls g s b 0 34 s b 0 w0 _ HGG.out HI.out HB.out hpk).mono ?_; rintro e w1 ⟨rfl, hI1, hB1, hK1⟩; have HI1 := Aside0.mk hI1; have HB1 := Aside0.mk hB1; have HK1 := Aside0.mk hK1; have hcz0 := cellS121_0 hI1.1; have hcz1 := cellS121_1 hI1.1; have hcz2 := cellS121_2 hI1.1; have hfz1 := blk_frozen hI1.1 1; clear hI1 hB1 hK1 hpk)
  go_wp2_with (go_at_call 44; refine (HX.out _).mono ?_; rintro e w' ⟨rfl, rfl⟩)
  have HI3 := Aside0.mk (HI1.out.set_1 ((b : Int) + n + 2))
  have HB3 : Aside0 (Below w0.heap.size w0 (w'.setCell ⟨g, 1, none⟩ (.int .i64 ((b : Int) + n + 2)))) := ⟨below_set HB1.out hge⟩
  have HK3 : Aside0 (KeepBut w (w'.setCell ⟨g, 1, none⟩ (.int .i64 ((b : Int) + n + 2))) g none) := ⟨HK1.out.set_ 1 _⟩
  obtain ⟨i, hi⟩ : ∃ i : Nat, i = b + n + 2 := ⟨_, rfl⟩
  have hii : (b : Int) + (n : Int) + 2 = (i : Int) := by omega
  have his : i ≤ s.size := by omega
  have hbi : b ≤ i := by omega
  rw [← hi] at hv hr
  have HV := hv
  have HF := hr
  rw [hii] at HI3 HB3 HK3 ⊢
  clear hi hii hv hr hcz0 hcz1 hcz2 hfz1 hn
  have hcz0 := cellS121_0 HI3.out.1
  have hcz1 := cellS121_1 HI3.out.1
  have hcz2 := cellS121_2 HI3.out.1
  have hfz1 := blk_frozen HI3.out.1 1
  obtain ⟨w3, hw3⟩ : ∃ w3, w3 = w'.setCell ⟨g, 1, none⟩ (.int .i64 i) := ⟨_, rfl⟩
  rw [← hw3] at HI3 HB3 HK3 hcz0 hcz1 hcz2 hfz1 ⊢
  clear hw3
  have HL := Aside0.mk HI3.out.lt
  go_wp2_with fail
  go_region_held3 (fun w' => w'.cell? ⟨g, 0, none⟩ = some (.string s) ∧ w'.cell? ⟨g, 1, none⟩ = some (.int .i64 i)) (first | go_keep | exact ⟨(hB3.cell (p := ⟨g, 0, none⟩) HL.out).trans hcz0, (hB3.cell (p := ⟨g, 1, none⟩) HL.out).trans hcz1⟩) (first | (go_at_call 19; refine (escape_Value.calls k (s.extract b i) r1 er _ (HGG.out.below (pw_below_drewN HB3.out _)) HV.out).mono ?_; rintro e w4 ⟨rfl, hB3⟩))
  have HB4 := Aside0.mk hB3
  clear hB3
  by_cases her : er = 0
  · obtain ⟨rfl, rfl⟩ := HF.out.1 her
    subst her
    go_wp2_with fail
    go_ret
    exact ⟨rfl, (HI3.out.drewN _).below HB4.out, (pw_below_drewN HB3.out _).trans (HB4.out.mono (pw_below_drewN HB3.out _).size), (keep_drewN HK3.out _).trans (KeepBut.of_below HB4.out g none) (.inl rfl)⟩
  · obtain ⟨rfl, rfl⟩ := HF.out.2 her
    have her1 : (er != 0) = true := bne_iff_ne.2 her
    have her2 : (er == 0) = false := beq_eq_false_iff_ne.2 her
    clear her
    have HI5 := Aside0.mk ((HI3.out.drewN _).below HB4.out)
    have HB5 := Aside0.mk ((pw_below_drewN HB3.out _).trans (HB4.out.mono (pw_below_drewN HB3.out _).size))
    have HK5 := Aside0.mk ((keep_drewN HK3.out _).trans (KeepBut.of_below HB4.out g none) (.inl rfl))
    clear hcz0 hcz1 hcz2 hfz1
    go_wp2_with (go_at_call 78; refine (line_reader_wrong.calls g s i 0 7 b s b 7 w0 _ HGG.out HI5.out HB5.out rfl).mono ?_; rintro e w6 ⟨rfl, hI6, hB6, hK6⟩; have HI6 := Aside0.mk hI6; have HB6 := Aside0.mk hB6; have HK6 := Aside0.mk hK6; clear hI6 hB6 hK6)
    go_ret
    exact ⟨rfl, HI6.out, HB6.out, HK5.out.trans HK6.out (.inl rfl)⟩
set_option maxHeartbeats 8000000 in
set_option maxRecDepth 100000 in
theorem value_plain (g : Nat) (s : ByteArray) (b : Nat) (w0 w : World) (hG : GG w0) (hI : IsS121 w0 w g s b 0) (hB : Below w0.heap.size w0 w) (hs : s.size ≤ 4611686018427387904) (hb : b ≤ s.size) (hc : ∀ h : b < s.size, s[b] ≠ 34) (n : Nat) (hn : n = ((s.data.toList.drop b).takeWhile plainV).length) (k : Nat) (r1 : ByteArray) (er : Int) (hv : Aside0 (escape_Value.f k (s.extract b (b + n)) = some (r1, er))) (r3 r4 : Int) (hr : Aside0 ((er = 0 → r3 = ((b + n : Nat) : Int) ∧ r4 = 0) ∧ (er ≠ 0 → r3 = (b : Int) ∧ r4 = 7))) :
    Calls Tryd.prog 96 #[.pointer (some ⟨g, 0, none⟩)] w fun e w' => e = .returned (.string r1) ∧ IsS121 w0 w' g s r3 r4 ∧ Below w0.heap.size w0 w' ∧ KeepBut w w' g none := by
  obtain ⟨pk, hpk, hne⟩ : ∃ pk : Int, line_reader_peek.f s b 0 = some (pk, s, (b : Int), 0) ∧ pk ≠ 34 := by
    by_cases h : b < s.size
    · refine ⟨_, peek_at s b _ h rfl, fun e => hc h ?_⟩
      apply UInt8.toNat_inj.1
      show s[b].toNat = 34
      exact Int.ofNat.inj e
    · exact ⟨0, peek_end s b (by omega), by decide⟩
  have hn1 : (pk == 34) = false := beq_eq_false_iff_ne.2 hne
  have hbn : b + n ≤ s.size := by
    have := (List.takeWhile_sublist plainV (l := s.data.toList.drop b)).length_le
    rw [List.length_drop] at this
    have e : s.data.toList.length = s.size := by simp
    omega
  have HN := Aside0.mk hn
  have HV := hv
  have HF := hr
  have HBN := Aside0.mk hbn
  clear hne hc hn hv hr hbn
  have HI := Aside0.mk hI
  have HB := Aside0.mk hB
  have HGG := Aside0.mk hG
  have hge := hI.ge
  have hcz0 := cellS121_0 hI.1
  have hcz1 := cellS121_1 hI.1
  have hcz2 := cellS121_2 hI.1
  clear hI hB hG
  go_enter Tryd.func96, Tryd.ntmps96
  go_wp2_with (go_at_call 76; refine (line_reader_peek.calls g s b 0 pk s b 0 w0 _ HGG.out HI.out HB.out hpk).mono ?_; rintro e w1 ⟨rfl, hI1, hB1, hK1⟩; have HI1 := Aside0.mk hI1; have HB1 := Aside0.mk hB1; have HK1 := Aside0.mk hK1; have hcz0 := cellS121_0 hI1.1; have hcz1 := cellS121_1 hI1.1; have hcz2 := cellS121_2 hI1.1; have hfz1 := blk_frozen hI1.1 1; clear hI1 hB1 hK1 hpk)
  clear hcz0 hcz1 hcz2 hfz1
  go_loopg [60] s.size (fun g2 v60 wr => ∃ i : Nat, b ≤ i ∧ i ≤ s.size ∧ Aside0 (s.size ≤ i + g2) ∧ Aside0 (IsS121 w0 wr g s i 0) ∧ Aside0 (Below w0.heap.size w0 wr) ∧ Aside0 (KeepBut w wr g none) ∧ Aside0 (b + n = i + ((s.data.toList.drop i).takeWhile plainV).length))
  case atStart => exact ⟨b, by omega, hb, ⟨by omega⟩, HI1, HB1, HK1, ⟨by rw [HN.out]⟩⟩
  case round =>
    obtain ⟨i, hbi, his, HK, HIr, HBr, HKr, HE⟩ := hrel
    have HL := Aside0.mk HIr.out.lt
    have hcz0 := cellS121_0 HIr.out.1
    have hcz1 := cellS121_1 HIr.out.1
    have hcz2 := cellS121_2 HIr.out.1
    have hfz1 := blk_frozen HIr.out.1 1
    by_cases hlt : i < s.size
    · have d1 : decide (i < s.size) = true := decide_eq_true hlt
      obtain ⟨c, hc⟩ : ∃ c : UInt8, s[i] = c := ⟨_, rfl⟩
      have hdr : s.data.toList.drop i = c :: s.data.toList.drop (i + 1) := by
        rw [List.drop_eq_getElem_cons (by simpa using hlt)]; rw [← hc]; rfl
      have HD := Aside0.mk hdr
      obtain ⟨x, hx⟩ : ∃ x, x = Lib.indexByte [58, 59, 44, 34] c := ⟨_, rfl⟩
      have HX : Aside0 (∀ W, Calls Tryd.prog 44 #[.string ⟨#[58, 59, 44, 34]⟩, .int .u8 ((c.toNat : Nat) : Int)] W fun e w' => e = .returned (.int .i64 x) ∧ w' = W) := ⟨fun W => by
        have h := Tryd.strings_IndexByte ⟨#[58, 59, 44, 34]⟩ ((c.toNat : Nat) : Int) W
        have e1 : ((c.toNat : Nat) : Int).toNat.toUInt8 = c := by simp
        rw [e1] at h
        rw [hx]; exact h⟩
      have hpl := plain_idx c
      rw [← hx] at hpl
      clear hx hdr
      by_cases hp : plainV c = true
      · have d2 : decide (x < 0) = true := decide_eq_true (hpl.2 hp)
        have HP := Aside0.mk hp
        clear hpl hp
        cases gk with
        | zero => exfalso; have := HK.out; omega
        | succ g2 =>
        have HE2 : Aside0 (b + n = (i + 1) + ((s.data.toList.drop (i + 1)).takeWhile plainV).length) := ⟨by
          have e := HE.out
          rw [HD.out, List.takeWhile_cons, if_pos HP.out, List.length_cons] at e
          omega⟩
        go_wp2_with fail
        go_quiet ((go_at_call 44; exact Calls.quiet_of_same (HX.out _)))
        go_wp2_with fail
        go_roundg g2
        case measure => have := HK.out; omega
        case rel => exact ⟨i + 1, by omega, by omega, ⟨by have := HK.out; omega⟩, ⟨by have h9 := (HIr.out.drewN 0).set_1 ((i : Int) + 1); exact h9⟩, ⟨below_set (pw_below_drewN HBr.out _) hge⟩, ⟨(keep_drewN HKr.out _).set_ _ _⟩, HE2⟩
      · have d2 : decide (x < 0) = false := decide_eq_false (fun h => hp (hpl.1 h))
        have hz : b + n = i := by
          have e := HE.out
          rw [HD.out, List.takeWhile_cons, if_neg hp] at e
          simpa using e
        clear hpl hp
        rw [hz] at HV HF
        clear hz
        go_wp2_with fail
        go_quiet ((go_at_call 44; exact Calls.quiet_of_same (HX.out _)))
        have HI3 := HIr
        have HB3 := HBr
        have HK3 := HKr
        have HL := Aside0.mk HI3.out.lt
        go_wp2_with fail
        go_region_held3 (fun w' => w'.cell? ⟨g, 0, none⟩ = some (.string s) ∧ w'.cell? ⟨g, 1, none⟩ = some (.int .i64 i)) (first | go_keep | exact ⟨(hB3.cell (p := ⟨g, 0, none⟩) HL.out).trans hcz0, (hB3.cell (p := ⟨g, 1, none⟩) HL.out).trans hcz1⟩) (first | (go_at_call 19; refine (escape_Value.calls k (s.extract b i) r1 er _ (HGG.out.below (pw_below_drewN HB3.out _)) HV.out).mono ?_; rintro e w4 ⟨rfl, hB3⟩))
        have HB4 := Aside0.mk hB3
        clear hB3
        by_cases her : er = 0
        · obtain ⟨rfl, rfl⟩ := HF.out.1 her
          subst her
          go_wp2_with fail
          go_ret
          exact ⟨rfl, (HI3.out.drewN _).below HB4.out, (pw_below_drewN HB3.out _).trans (HB4.out.mono (pw_below_drewN HB3.out _).size), (keep_drewN HK3.out _).trans (KeepBut.of_below HB4.out g none) (.inl rfl)⟩
        · obtain ⟨rfl, rfl⟩ := HF.out.2 her
          have her1 : (er != 0) = true := bne_iff_ne.2 her
          have her2 : (er == 0) = false := beq_eq_false_iff_ne.2 her
          clear her
          have HI5 := Aside0.mk ((HI3.out.drewN _).below HB4.out)
          have HB5 := Aside0.mk ((pw_below_drewN HB3.out _).trans (HB4.out.mono (pw_below_drewN HB3.out _).size))
          have HK5 := Aside0.mk ((keep_drewN HK3.out _).trans (KeepBut.of_below HB4.out g none) (.inl rfl))
          clear hcz0 hcz1 hcz2 hfz1
          go_wp2_with (go_at_call 78; refine (line_reader_wrong.calls g s i 0 7 b s b 7 w0 _ HGG.out HI5.out HB5.out rfl).mono ?_; rintro e w6 ⟨rfl, hI6, hB6, hK6⟩; have HI6 := Aside0.mk hI6; have HB6 := Aside0.mk hB6; have HK6 := Aside0.mk hK6; clear hI6 hB6 hK6)
          go_ret
          exact ⟨rfl, HI6.out, HB6.out, HK5.out.trans HK6.out (.inl rfl)⟩
    · have d1 : decide (i < s.size) = false := decide_eq_false hlt
      have hz : b + n = i := by
        have e := HE.out
        rw [show s.data.toList.drop i = [] from List.drop_eq_nil_of_le (by simp; omega)] at e
        simpa using e
      rw [hz] at HV HF
      clear hz
      go_wp2_with fail
      go_quiet (fail)
      have HI3 := HIr
      have HB3 := HBr
      have HK3 := HKr
      have HL := Aside0.mk HI3.out.lt
      go_wp2_with fail
      go_region_held3 (fun w' => w'.cell? ⟨g, 0, none⟩ = some (.string s) ∧ w'.cell? ⟨g, 1, none⟩ = some (.int .i64 i)) (first | go_keep | exact ⟨(hB3.cell (p := ⟨g, 0, none⟩) HL.out).trans hcz0, (hB3.cell (p := ⟨g, 1, none⟩) HL.out).trans hcz1⟩) (first | (go_at_call 19; refine (escape_Value.calls k (s.extract b i) r1 er _ (HGG.out.below (pw_below_drewN HB3.out _)) HV.out).mono ?_; rintro e w4 ⟨rfl, hB3⟩))
      have HB4 := Aside0.mk hB3
      clear hB3
      by_cases her : er = 0
      · obtain ⟨rfl, rfl⟩ := HF.out.1 her
        subst her
        go_wp2_with fail
        go_ret
        exact ⟨rfl, (HI3.out.drewN _).below HB4.out, (pw_below_drewN HB3.out _).trans (HB4.out.mono (pw_below_drewN HB3.out _).size), (keep_drewN HK3.out _).trans (KeepBut.of_below HB4.out g none) (.inl rfl)⟩
      · obtain ⟨rfl, rfl⟩ := HF.out.2 her
        have her1 : (er != 0) = true := bne_iff_ne.2 her
        have her2 : (er == 0) = false := beq_eq_false_iff_ne.2 her
        clear her
        have HI5 := Aside0.mk ((HI3.out.drewN _).below HB4.out)
        have HB5 := Aside0.mk ((pw_below_drewN HB3.out _).trans (HB4.out.mono (pw_below_drewN HB3.out _).size))
        have HK5 := Aside0.mk ((keep_drewN HK3.out _).trans (KeepBut.of_below HB4.out g none) (.inl rfl))
        clear hcz0 hcz1 hcz2 hfz1
        go_wp2_with (go_at_call 78; refine (line_reader_wrong.calls g s i 0 7 b s b 7 w0 _ HGG.out HI5.out HB5.out rfl).mono ?_; rintro e w6 ⟨rfl, hI6, hB6, hK6⟩; have HI6 := Aside0.mk hI6; have HB6 := Aside0.mk hB6; have HK6 := Aside0.mk hK6; clear hI6 hB6 hK6)
        go_ret
        exact ⟨rfl, HI6.out, HB6.out, HK5.out.trans HK6.out (.inl rfl)⟩
theorem line_reader_value.calls (k : Nat) (g : Nat) (s0_0 : ByteArray) (s0_1 : Int) (s0_2 : Int) (r1 : ByteArray) (r2 : ByteArray) (r3 : Int) (r4 : Int) (w0 w : World) (hG : GG w0) (hI : IsS121 w0 w g s0_0 s0_1 s0_2) (hB : Below w0.heap.size w0 w) (h : line_reader_value.f k s0_0 s0_1 s0_2 = some (r1, r2, r3, r4)) :
    Calls Tryd.prog 96 #[.pointer (some ⟨g, 0, none⟩)] w fun e w' => e = .returned (.string r1) ∧ IsS121 w0 w' g r2 r3 r4 ∧ Below w0.heap.size w0 w' ∧ KeepBut w w' g none := by
  unfold line_reader_value.f at h
  by_cases hc : s0_2 = 0 ∧ 0 ≤ s0_1 ∧ s0_1 ≤ (s0_0.size : Int) ∧ s0_0.size ≤ 4611686018427387904
  · rw [if_pos hc] at h
    obtain ⟨rfl, h0, h1, h2⟩ := hc
    obtain ⟨b, rfl⟩ : ∃ b : Nat, s0_1 = (b : Int) := ⟨s0_1.toNat, by omega⟩
    rw [Int.toNat_natCast] at h
    have hfin : ∀ (n : Nat) (er : Int) (r3 r4 : Int), r3 = (if er = 0 then ((b + n : Nat) : Int) else (b : Int)) → r4 = (if er = 0 then 0 else 7) → Aside0 ((er = 0 → r3 = ((b + n : Nat) : Int) ∧ r4 = 0) ∧ (er ≠ 0 → r3 = (b : Int) ∧ r4 = 7)) := by
      intro n er r3 r4 e3 e4
      refine ⟨⟨fun he => ?_, fun he => ?_⟩⟩
      · rw [if_pos he] at e3 e4; exact ⟨e3, e4⟩
      · rw [if_neg he] at e3 e4; exact ⟨e3, e4⟩
    by_cases hq : ∃ hb : b < s0_0.size, s0_0[b] = 34
    · obtain ⟨hb, hq⟩ := hq
      have hdr : s0_0.data.toList.drop b = 34 :: s0_0.data.toList.drop (b + 1) := by
        rw [List.drop_eq_getElem_cons (by simpa using hb)]; rw [← hq]; rfl
      have hex : (s0_0.extract (b + 1) s0_0.size).data.toList = s0_0.data.toList.drop (b + 1) := Lib.extract_to_end _ _
      have hv : valEnd (s0_0.data.toList.drop b) = if Lib.indexByte (s0_0.extract (b + 1) s0_0.size).data.toList 34 < 0 then none else some ((Lib.indexByte (s0_0.extract (b + 1) s0_0.size).data.toList 34).toNat + 2) := by
        rw [hdr, hex]; rfl
      rw [hv] at h
      by_cases hx : Lib.indexByte (s0_0.extract (b + 1) s0_0.size).data.toList 34 < 0
      · rw [if_pos hx] at h
        simp only [Option.some.injEq, Prod.mk.injEq] at h
        obtain ⟨rfl, rfl, rfl, rfl⟩ := h
        exact value_open g _ b w0 w hG hI hB h2 hb hq hx _ _ _ ⟨rfl, rfl, rfl⟩
      · rw [if_neg hx] at h
        obtain ⟨n, hn⟩ : ∃ n : Nat, Lib.indexByte (s0_0.extract (b + 1) s0_0.size).data.toList 34 = n := ⟨(Lib.indexByte (s0_0.extract (b + 1) s0_0.size).data.toList 34).toNat, by omega⟩
        have hlt := idx_lt _ _ (Int.not_lt.1 hx)
        rw [hn, hex, List.length_drop, Array.length_toList] at hlt
        have es : s0_0.data.size = s0_0.size := rfl
        rw [hn, Int.toNat_natCast] at h
        simp only at h
        obtain ⟨p, hp, h⟩ := Option.bind_eq_some_iff.1 h
        simp only [Option.some.injEq, Prod.mk.injEq] at h
        obtain ⟨rfl, rfl, e3, e4⟩ := h
        exact value_quo g _ b w0 w hG hI hB h2 hb hq n hn (by omega) k p.1 p.2 ⟨hp⟩ _ _ (hfin (n + 2) p.2 _ _ e3.symm e4.symm)
    · have hv : valEnd (s0_0.data.toList.drop b) = some ((s0_0.data.toList.drop b).takeWhile plainV).length := by
        unfold valEnd
        rw [if_neg]
        intro hh
        by_cases hb : b < s0_0.size
        · rw [List.drop_eq_getElem_cons (by simpa using hb)] at hh
          exact hq ⟨hb, Option.some.inj hh⟩
        · rw [show s0_0.data.toList.drop b = [] from List.drop_eq_nil_of_le (by simp; omega)] at hh
          cases hh
      rw [hv] at h
      simp only at h
      obtain ⟨p, hp, h⟩ := Option.bind_eq_some_iff.1 h
      simp only [Option.some.injEq, Prod.mk.injEq] at h
      obtain ⟨rfl, rfl, e3, e4⟩ := h
      exact value_plain g _ b w0 w hG hI hB h2 (by omega) (fun hb he => hq ⟨hb, he⟩) _ rfl k p.1 p.2 ⟨hp⟩ _ _ (hfin _ p.2 _ _ e3.symm e4.symm)
  · rw [if_neg hc] at h; cases h
theorem line_reader_value.mono : ∀ a0 a1 a2 k, LeO (line_reader_value.f k a0 a1 a2) (line_reader_value.f (k + 1) a0 a1 a2) := by
  intro a0 a1 a2 k
  unfold line_reader_value.f
  refine LeO.ite ?_ (LeO.refl _)
  cases valEnd (a0.data.toList.drop a1.toNat) with
  | none => exact LeO.refl _
  | some n => exact LeO.bind (escape_Value.mono _ _) (fun _ => LeO.refl _)
end Go.Proofs.YtknmbalhbecdhaaDoor.Print
