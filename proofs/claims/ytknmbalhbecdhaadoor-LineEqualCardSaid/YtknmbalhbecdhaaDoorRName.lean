/- (*line.reader).name: walked by hand. -/
import Derived.Test.YtknmbalhbecdhaaDoorPrint1
import Derived.Test.YtknmbalhbecdhaaDoorGreat
import Derived.Deep.QuietTactic
import Derived.BigQuiet
import Derived.Deep.RegionWith
import Derived.RegionCalls
import Derived.Deep.RegionHeld3
import Derived.Outline
set_option linter.unusedVariables false
set_option linter.unusedSimpArgs false
namespace Go.Proofs.YtknmbalhbecdhaaDoor.Print
open Go.RowKit Go.Proofs.YtknmbalhbecdhaaDoorW.PrintWords Go.Proofs.YtknmbalhbecdhaaDoorW.PrintLast Go.Proofs.YtknmbalhbecdhaaDoorW.PrintMore

/-- Signs of names, small letters too. -/
def signS (c : UInt8) : Bool := (line_sign.f ((c.toNat : Nat) : Int) false).getD false
theorem signS_f (c : UInt8) : line_sign.f ((c.toNat : Nat) : Int) false = some (signS c) := by
  unfold signS
  have h : ∃ b, line_sign.f ((c.toNat : Nat) : Int) false = some b := by
    unfold line_sign.f
    repeat' split
    all_goals exact ⟨_, rfl⟩
  obtain ⟨b, hb⟩ := h
  rw [hb]; rfl
/-- How many bytes a name has, of so many at most. -/
def nameEnd (l : List UInt8) (n : Nat) : Nat := ((l.take n).takeWhile signS).length
theorem nameEnd_nil (n : Nat) : nameEnd [] n = 0 := by simp [nameEnd]
theorem nameEnd_zero (l : List UInt8) : nameEnd l 0 = 0 := by simp [nameEnd]
theorem nameEnd_yes (c : UInt8) (t : List UInt8) (n : Nat) (h : signS c = true) : nameEnd (c :: t) (n + 1) = nameEnd t n + 1 := by simp [nameEnd, h]
theorem nameEnd_no (c : UInt8) (t : List UInt8) (n : Nat) (h : signS c = false) : nameEnd (c :: t) (n + 1) = 0 := by simp [nameEnd, h]
theorem nameEnd_le (l : List UInt8) (n : Nat) : nameEnd l n ≤ l.length ∧ nameEnd l n ≤ n := by
  unfold nameEnd
  have h1 := (List.takeWhile_sublist signS (l := l.take n)).length_le
  rw [List.length_take] at h1
  omega
def line_reader_name.f (s0_0 : ByteArray) (s0_1 : Int) (s0_2 : Int) : Option (ByteArray × ByteArray × Int × Int) :=
  if s0_2 = 0 ∧ 0 ≤ s0_1 ∧ s0_1 ≤ (s0_0.size : Int) ∧ s0_0.size ≤ 4611686018427387904 then
    (if nameEnd (s0_0.data.toList.drop s0_1.toNat) 60 = 0 then some (⟨#[]⟩, s0_0, s0_1, 5)
     else some (greatS (s0_0.extract s0_1.toNat (s0_1.toNat + nameEnd (s0_0.data.toList.drop s0_1.toNat) 60)), s0_0, ((s0_1.toNat + nameEnd (s0_0.data.toList.drop s0_1.toNat) 60 : Nat) : Int), 0))
  else none
theorem ext_same {s : ByteArray} {b i : Nat} (h : i = b) : greatS (s.extract b i) = ⟨#[]⟩ := by
  subst h
  have : s.extract i i = ⟨#[]⟩ := by
    apply ByteArray.ext
    rw [ByteArray.data_extract, Array.extract_eq_empty_iff.2 (by omega)]
  rw [this]; rfl
theorem name_fin {s : ByteArray} {b i n : Nat} {r1 : ByteArray} {r3 r4 : Int} (hz : n = i - b) (hr : if n = 0 then r1 = ⟨#[]⟩ ∧ r3 = (b : Int) ∧ r4 = 5 else r1 = greatS (s.extract b (b + n)) ∧ r3 = ((b + n : Nat) : Int) ∧ r4 = 0) (hbi : b ≤ i := by omega) :
    (i = b → r1 = ⟨#[]⟩ ∧ r3 = (b : Int) ∧ r4 = 5) ∧ (i ≠ b → r1 = greatS (s.extract b i) ∧ r3 = (i : Int) ∧ r4 = 0) := by
  refine ⟨fun h => ?_, fun h => ?_⟩
  · rw [if_pos (by omega)] at hr; exact hr
  · rw [if_neg (by omega), show b + n = i by omega] at hr; exact hr
set_option maxHeartbeats 8000000 in
set_option maxRecDepth 100000 in
theorem name_walk (g : Nat) (s : ByteArray) (b : Nat) (w0 w : World) (hG : GG w0) (hI : IsS121 w0 w g s b 0) (hB : Below w0.heap.size w0 w) (hb : b ≤ s.size) (hs : s.size ≤ 4611686018427387904) (r1 : ByteArray) (r3 r4 : Int)
    (hr : Aside0 (if nameEnd (s.data.toList.drop b) 60 = 0 then r1 = ⟨#[]⟩ ∧ r3 = (b : Int) ∧ r4 = 5 else r1 = greatS (s.extract b (b + nameEnd (s.data.toList.drop b) 60)) ∧ r3 = ((b + nameEnd (s.data.toList.drop b) 60 : Nat) : Int) ∧ r4 = 0)) :
    Calls Tryd.prog 75 #[.pointer (some ⟨g, 0, none⟩)] w fun e w' => e = .returned (.string r1) ∧ IsS121 w0 w' g s r3 r4 ∧ Below w0.heap.size w0 w' ∧ KeepBut w w' g none := by
  have HI := Aside0.mk hI
  have HB := Aside0.mk hB
  have HGG := Aside0.mk hG
  have hge := hI.ge
  have hcz0 := cellS121_0 hI.1
  have hcz1 := cellS121_1 hI.1
  have hcz2 := cellS121_2 hI.1
  have hfz1 := blk_frozen hI.1 1
  clear hI hB hG
  go_enter Tryd.func75, Tryd.ntmps75
  go_wp2_with fail
  clear hcz0 hcz1 hcz2 hfz1
  go_loopg [38] 60 (fun g2 v38 wr => ∃ i : Nat, b ≤ i ∧ i ≤ s.size ∧ i - b ≤ 60 ∧ Aside0 (60 ≤ (i - b) + g2) ∧ Aside0 (IsS121 w0 wr g s i 0) ∧ Aside0 (Below w0.heap.size w0 wr) ∧ Aside0 (KeepBut w wr g none) ∧ Aside0 (nameEnd (s.data.toList.drop b) 60 = (i - b) + nameEnd (s.data.toList.drop i) (60 - (i - b))))
  case atStart => exact ⟨b, by omega, hb, by omega, ⟨by omega⟩, HI, HB, ⟨KeepBut.refl _ _ _⟩, ⟨by simp⟩⟩
  case round =>
    obtain ⟨i, hbi, his, hi60, HK, HIr, HBr, HKr, HE⟩ := hrel
    have hcz0 := cellS121_0 HIr.out.1
    have hcz1 := cellS121_1 HIr.out.1
    have hcz2 := cellS121_2 HIr.out.1
    have hfz1 := blk_frozen HIr.out.1 1
    have HL := Aside0.mk HIr.out.lt
    have hsn := signS_f
    have HSN := Aside0.mk hsn
    clear hsn
    have hdb : IntKind.i64.wrap ((i : Int) - (b : Int)) = (i : Int) - (b : Int) := IntWalk.i64_in _ (by omega)
    clear hdb
    by_cases hlt : i < s.size
    · have d1 : decide (i < s.size) = true := decide_eq_true hlt
      by_cases h60 : i - b < 60
      · obtain ⟨c, hc⟩ : ∃ c : UInt8, s[i] = c := ⟨_, rfl⟩
        have hcl := HSN.out c
        have hdr : s.data.toList.drop i = c :: s.data.toList.drop (i + 1) := by
          rw [List.drop_eq_getElem_cons (by simpa using hlt)]; rw [← hc]; rfl
        obtain ⟨r, hr⟩ : ∃ r, r = signS c := ⟨_, rfl⟩
        rw [← hr] at hcl
        have HC := Aside0.mk hcl
        have HD := Aside0.mk (And.intro hdr hr)
        clear hcl hdr
        have d2 : decide ((i : Int) - (b : Int) < 60) = true := decide_eq_true (by omega)
        have d3 : IntKind.i64.wrap ((i : Int) - (b : Int)) = (i : Int) - (b : Int) := IntWalk.i64_in _ (by omega)
        clear hr
        cases r with
        | true =>
          cases gk with
          | zero => exfalso; have := HK.out; omega
          | succ g2 =>
          have HE2 : Aside0 (nameEnd (s.data.toList.drop b) 60 = (i + 1 - b) + nameEnd (s.data.toList.drop (i + 1)) (60 - (i + 1 - b))) := ⟨by
            have e := HE.out
            have e2 : 60 - (i - b) = (60 - (i + 1 - b)) + 1 := by omega
            rw [HD.out.1, e2, nameEnd_yes c _ _ HD.out.2.symm] at e
            rw [e]; omega⟩
          go_wp2_with fail
          go_quiet ((go_at_call 94; exact Calls.quiet_of ((line_sign.calls _ _ true _ (HGG.out.below (pw_below_drewN HBr.out _)) HC.out).mono fun e w' h => ⟨h.1, h.2.out⟩)))
          go_wp2_with fail
          go_roundg g2
          case measure => have := HK.out; omega
          case rel => exact ⟨i + 1, by omega, by omega, by omega, ⟨by have := HK.out; omega⟩, ⟨by first | exact (HIr.out.drewN _).set_1 _ | (have h9 := (HIr.out.drewN 0).set_1 ((i : Int) + 1); exact h9)⟩, ⟨below_set (pw_below_drewN HBr.out _) hge⟩, ⟨(keep_drewN HKr.out _).set_ _ _⟩, HE2⟩
        | false =>
          have HZ : Aside0 (nameEnd (s.data.toList.drop b) 60 = i - b) := ⟨by
            have e := HE.out
            have e2 : 60 - (i - b) = (60 - (i + 1 - b)) + 1 := by omega
            rw [HD.out.1, e2, nameEnd_no c _ _ HD.out.2.symm] at e
            omega⟩
          go_wp2_with fail
          go_quiet ((go_at_call 94; exact Calls.quiet_of ((line_sign.calls _ _ false _ (HGG.out.below (pw_below_drewN HBr.out _)) HC.out).mono fun e w' h => ⟨h.1, h.2.out⟩)))
          have HX : Aside0 ((s.extract b i).size ≤ 9223372036854775807) := ⟨by rw [ByteArray.size_extract]; omega⟩
          have HR := Aside0.mk (name_fin HZ.out hr.out)
          by_cases e0 : i = b
          · obtain ⟨rfl, rfl, rfl⟩ := HR.out.1 e0
            have HE0 := Aside0.mk e0
            have hii : (i : Int) = (b : Int) := by omega
            have hib : ((i : Int) == (b : Int)) = true := beq_iff_eq.2 hii
            clear hii e0
            go_wp2_with (go_at_call 78; refine (line_reader_wrong.calls g s i 0 5 i s i 5 w0 _ HGG.out (HIr.out.drewN _) (pw_below_drewN HBr.out _) rfl).mono ?_; rintro e w2 ⟨rfl, hI2, hB2, hK2⟩)
            have HI2 := Aside0.mk hI2
            have HB2 := Aside0.mk hB2
            have HK2 := Aside0.mk ((keep_drewN HKr.out _).trans hK2 (.inl rfl))
            clear hI2 hB2 hK2 hcz0 hcz1 hcz2 hfz1
            have HL := Aside0.mk HI2.out.lt
            have hcz0 := cellS121_0 HI2.out.1
            have hcz1 := cellS121_1 HI2.out.1
            have hcz2 := cellS121_2 HI2.out.1
            go_wp2_with fail
            go_region_held3 (fun w' => w'.cell? ⟨g, 0, none⟩ = some (.string s) ∧ w'.cell? ⟨g, 1, none⟩ = some (.int .i64 i)) (first | go_keep | exact ⟨(hB3.cell (p := ⟨g, 0, none⟩) HL.out).trans hcz0, (hB3.cell (p := ⟨g, 1, none⟩) HL.out).trans hcz1⟩) (first | (go_at_call 95; refine (great_walk (s.extract b i) _ HX.out).mono ?_; rintro e w3 ⟨rfl, hB3⟩))
            have HB3 := Aside0.mk hB3
            clear hB3
            go_wp2_with fail
            go_ret
            refine ⟨by rw [ext_same HE0.out]; rfl, ?_, ?_, ?_⟩
            · rw [← HE0.out]; exact (HI2.out.drewN _).below HB3.out
            · exact (pw_below_drewN HB2.out _).trans (HB3.out.mono (pw_below_drewN HB2.out _).size)
            · exact (keep_drewN HK2.out _).trans (KeepBut.of_below HB3.out g none) (.inl rfl)
          · obtain ⟨rfl, rfl, rfl⟩ := HR.out.2 e0
            have hib : ((i : Int) == (b : Int)) = false := beq_eq_false_iff_ne.2 (by omega)
            go_wp2_with fail
            go_region_held3 (fun w' => w'.cell? ⟨g, 0, none⟩ = some (.string s) ∧ w'.cell? ⟨g, 1, none⟩ = some (.int .i64 i)) (first | go_keep | exact ⟨(hB3.cell (p := ⟨g, 0, none⟩) HL.out).trans hcz0, (hB3.cell (p := ⟨g, 1, none⟩) HL.out).trans hcz1⟩) (first | (go_at_call 95; refine (great_walk (s.extract b i) _ HX.out).mono ?_; rintro e w3 ⟨rfl, hB3⟩))
            have HB3 := Aside0.mk hB3
            clear hB3
            go_wp2_with fail
            go_ret
            exact ⟨rfl, (HIr.out.drewN _).below HB3.out, (pw_below_drewN HBr.out _).trans (HB3.out.mono (pw_below_drewN HBr.out _).size), (keep_drewN HKr.out _).trans (KeepBut.of_below HB3.out g none) (.inl rfl)⟩
      · have HZ : Aside0 (nameEnd (s.data.toList.drop b) 60 = i - b) := ⟨by
          have e := HE.out
          have e2 : 60 - (i - b) = 0 := by omega
          rw [e2, nameEnd_zero (s.data.toList.drop i)] at e
          omega⟩
        have d2 : decide ((i : Int) - (b : Int) < 60) = false := decide_eq_false (by omega)
        have d3 : IntKind.i64.wrap ((i : Int) - (b : Int)) = (i : Int) - (b : Int) := IntWalk.i64_in _ (by omega)
        go_wp2_with fail
        go_quiet (fail)
        have HX : Aside0 ((s.extract b i).size ≤ 9223372036854775807) := ⟨by rw [ByteArray.size_extract]; omega⟩
        have HR := Aside0.mk (name_fin HZ.out hr.out)
        by_cases e0 : i = b
        · obtain ⟨rfl, rfl, rfl⟩ := HR.out.1 e0
          have HE0 := Aside0.mk e0
          have hii : (i : Int) = (b : Int) := by omega
          have hib : ((i : Int) == (b : Int)) = true := beq_iff_eq.2 hii
          clear hii e0
          go_wp2_with (go_at_call 78; refine (line_reader_wrong.calls g s i 0 5 i s i 5 w0 _ HGG.out (HIr.out.drewN _) (pw_below_drewN HBr.out _) rfl).mono ?_; rintro e w2 ⟨rfl, hI2, hB2, hK2⟩)
          have HI2 := Aside0.mk hI2
          have HB2 := Aside0.mk hB2
          have HK2 := Aside0.mk ((keep_drewN HKr.out _).trans hK2 (.inl rfl))
          clear hI2 hB2 hK2 hcz0 hcz1 hcz2 hfz1
          have HL := Aside0.mk HI2.out.lt
          have hcz0 := cellS121_0 HI2.out.1
          have hcz1 := cellS121_1 HI2.out.1
          have hcz2 := cellS121_2 HI2.out.1
          go_wp2_with fail
          go_region_held3 (fun w' => w'.cell? ⟨g, 0, none⟩ = some (.string s) ∧ w'.cell? ⟨g, 1, none⟩ = some (.int .i64 i)) (first | go_keep | exact ⟨(hB3.cell (p := ⟨g, 0, none⟩) HL.out).trans hcz0, (hB3.cell (p := ⟨g, 1, none⟩) HL.out).trans hcz1⟩) (first | (go_at_call 95; refine (great_walk (s.extract b i) _ HX.out).mono ?_; rintro e w3 ⟨rfl, hB3⟩))
          have HB3 := Aside0.mk hB3
          clear hB3
          go_wp2_with fail
          go_ret
          refine ⟨by rw [ext_same HE0.out]; rfl, ?_, ?_, ?_⟩
          · rw [← HE0.out]; exact (HI2.out.drewN _).below HB3.out
          · exact (pw_below_drewN HB2.out _).trans (HB3.out.mono (pw_below_drewN HB2.out _).size)
          · exact (keep_drewN HK2.out _).trans (KeepBut.of_below HB3.out g none) (.inl rfl)
        · obtain ⟨rfl, rfl, rfl⟩ := HR.out.2 e0
          have hib : ((i : Int) == (b : Int)) = false := beq_eq_false_iff_ne.2 (by omega)
          go_wp2_with fail
          go_region_held3 (fun w' => w'.cell? ⟨g, 0, none⟩ = some (.string s) ∧ w'.cell? ⟨g, 1, none⟩ = some (.int .i64 i)) (first | go_keep | exact ⟨(hB3.cell (p := ⟨g, 0, none⟩) HL.out).trans hcz0, (hB3.cell (p := ⟨g, 1, none⟩) HL.out).trans hcz1⟩) (first | (go_at_call 95; refine (great_walk (s.extract b i) _ HX.out).mono ?_; rintro e w3 ⟨rfl, hB3⟩))
          have HB3 := Aside0.mk hB3
          clear hB3
          go_wp2_with fail
          go_ret
          exact ⟨rfl, (HIr.out.drewN _).below HB3.out, (pw_below_drewN HBr.out _).trans (HB3.out.mono (pw_below_drewN HBr.out _).size), (keep_drewN HKr.out _).trans (KeepBut.of_below HB3.out g none) (.inl rfl)⟩
    · have HZ : Aside0 (nameEnd (s.data.toList.drop b) 60 = i - b) := ⟨by
        have e := HE.out
        rw [show s.data.toList.drop i = [] from List.drop_eq_nil_of_le (by simp; omega), nameEnd_nil] at e
        omega⟩
      have d1 : decide (i < s.size) = false := decide_eq_false hlt
      go_wp2_with fail
      go_quiet (fail)
      have HX : Aside0 ((s.extract b i).size ≤ 9223372036854775807) := ⟨by rw [ByteArray.size_extract]; omega⟩
      have HR := Aside0.mk (name_fin HZ.out hr.out)
      by_cases e0 : i = b
      · obtain ⟨rfl, rfl, rfl⟩ := HR.out.1 e0
        have HE0 := Aside0.mk e0
        have hii : (i : Int) = (b : Int) := by omega
        have hib : ((i : Int) == (b : Int)) = true := beq_iff_eq.2 hii
        clear hii e0
        go_wp2_with (go_at_call 78; refine (line_reader_wrong.calls g s i 0 5 i s i 5 w0 _ HGG.out (HIr.out.drewN _) (pw_below_drewN HBr.out _) rfl).mono ?_; rintro e w2 ⟨rfl, hI2, hB2, hK2⟩)
        have HI2 := Aside0.mk hI2
        have HB2 := Aside0.mk hB2
        have HK2 := Aside0.mk ((keep_drewN HKr.out _).trans hK2 (.inl rfl))
        clear hI2 hB2 hK2 hcz0 hcz1 hcz2 hfz1
        have HL := Aside0.mk HI2.out.lt
        have hcz0 := cellS121_0 HI2.out.1
        have hcz1 := cellS121_1 HI2.out.1
        have hcz2 := cellS121_2 HI2.out.1
        go_wp2_with fail
        go_region_held3 (fun w' => w'.cell? ⟨g, 0, none⟩ = some (.string s) ∧ w'.cell? ⟨g, 1, none⟩ = some (.int .i64 i)) (first | go_keep | exact ⟨(hB3.cell (p := ⟨g, 0, none⟩) HL.out).trans hcz0, (hB3.cell (p := ⟨g, 1, none⟩) HL.out).trans hcz1⟩) (first | (go_at_call 95; refine (great_walk (s.extract b i) _ HX.out).mono ?_; rintro e w3 ⟨rfl, hB3⟩))
        have HB3 := Aside0.mk hB3
        clear hB3
        go_wp2_with fail
        go_ret
        refine ⟨by rw [ext_same HE0.out]; rfl, ?_, ?_, ?_⟩
        · rw [← HE0.out]; exact (HI2.out.drewN _).below HB3.out
        · exact (pw_below_drewN HB2.out _).trans (HB3.out.mono (pw_below_drewN HB2.out _).size)
        · exact (keep_drewN HK2.out _).trans (KeepBut.of_below HB3.out g none) (.inl rfl)
      · obtain ⟨rfl, rfl, rfl⟩ := HR.out.2 e0
        have hib : ((i : Int) == (b : Int)) = false := beq_eq_false_iff_ne.2 (by omega)
        go_wp2_with fail
        go_region_held3 (fun w' => w'.cell? ⟨g, 0, none⟩ = some (.string s) ∧ w'.cell? ⟨g, 1, none⟩ = some (.int .i64 i)) (first | go_keep | exact ⟨(hB3.cell (p := ⟨g, 0, none⟩) HL.out).trans hcz0, (hB3.cell (p := ⟨g, 1, none⟩) HL.out).trans hcz1⟩) (first | (go_at_call 95; refine (great_walk (s.extract b i) _ HX.out).mono ?_; rintro e w3 ⟨rfl, hB3⟩))
        have HB3 := Aside0.mk hB3
        clear hB3
        go_wp2_with fail
        go_ret
        exact ⟨rfl, (HIr.out.drewN _).below HB3.out, (pw_below_drewN HBr.out _).trans (HB3.out.mono (pw_below_drewN HBr.out _).size), (keep_drewN HKr.out _).trans (KeepBut.of_below HB3.out g none) (.inl rfl)⟩
theorem line_reader_name.calls (g : Nat) (s0_0 : ByteArray) (s0_1 : Int) (s0_2 : Int) (r1 : ByteArray) (r2 : ByteArray) (r3 : Int) (r4 : Int) (w0 w : World) (hG : GG w0) (hI : IsS121 w0 w g s0_0 s0_1 s0_2) (hB : Below w0.heap.size w0 w) (h : line_reader_name.f s0_0 s0_1 s0_2 = some (r1, r2, r3, r4)) :
    Calls Tryd.prog 75 #[.pointer (some ⟨g, 0, none⟩)] w fun e w' => e = .returned (.string r1) ∧ IsS121 w0 w' g r2 r3 r4 ∧ Below w0.heap.size w0 w' ∧ KeepBut w w' g none := by
  unfold line_reader_name.f at h
  by_cases hc : s0_2 = 0 ∧ 0 ≤ s0_1 ∧ s0_1 ≤ (s0_0.size : Int) ∧ s0_0.size ≤ 4611686018427387904
  · rw [if_pos hc] at h
    obtain ⟨rfl, h0, h1, h2⟩ := hc
    obtain ⟨b, rfl⟩ : ∃ b : Nat, s0_1 = (b : Int) := ⟨s0_1.toNat, by omega⟩
    rw [Int.toNat_natCast] at h
    by_cases hn : nameEnd (s0_0.data.toList.drop b) 60 = 0
    · rw [if_pos hn] at h
      simp only [Option.some.injEq, Prod.mk.injEq] at h
      obtain ⟨rfl, rfl, rfl, rfl⟩ := h
      exact name_walk g s0_0 b w0 w hG hI hB (by omega) h2 _ _ _ ⟨by rw [if_pos hn]; exact ⟨rfl, rfl, rfl⟩⟩
    · rw [if_neg hn] at h
      simp only [Option.some.injEq, Prod.mk.injEq] at h
      obtain ⟨rfl, rfl, rfl, rfl⟩ := h
      exact name_walk g s0_0 b w0 w hG hI hB (by omega) h2 _ _ _ ⟨by rw [if_neg hn]; exact ⟨rfl, rfl, rfl⟩⟩
  · rw [if_neg hc] at h; cases h
end Go.Proofs.YtknmbalhbecdhaaDoor.Print
