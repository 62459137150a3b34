/- Plain: the bytes that may stand, as both sides ask for them. -/
import Derived.Test.YtknmbalhbecdhaaDoorPUtf0
import Derived.Test.YtknmbalhbecdhaaDoorPrint4
import Derived.Test.YtknmbalhbecdhaaDoorPrint1
set_option linter.unusedVariables false
set_option linter.unusedSimpArgs false
namespace Go.Proofs.YtknmbalhbecdhaaDoor.Pure
open Go.RowKit Go.Proofs.YtknmbalhbecdhaaDoor.Print Go.Proofs.YtknmbalhbecdhaaDoorW.PrintWords Go.Proofs.YtknmbalhbecdhaaDoorW.PrintLast Go.Proofs.YtknmbalhbecdhaaDoorW.PrintMore

/-- May this byte stand? -/
def okB (feeds : Bool) (c : UInt8) : Bool := !(c == 127 || (decide (c.toNat < 32) && c != 9 && !(feeds && c == 10)))
def cleanR (feeds : Bool) (l : List UInt8) : Int := if Lib.validD l = true then (if l.all (okB feeds) = true then 0 else 7) else 3

theorem okB_127 (f : Bool) : okB f 127 = false := by cases f <;> rfl
set_option maxHeartbeats 1000000 in
theorem refClean_ev (s : ByteArray) (f : Bool) (hs : s.size ≤ 140737488351232) : ∀ (n i : Nat), s.size - i ≤ n → i ≤ s.size → Ev (fun k => trystref08_Clean.l0 k s f (s.size : Int) i) (if (s.data.toList.drop i).all (okB f) = true then (0 : Int) else 7)
  | 0, i, h, hi => by
    obtain rfl : i = s.size := by omega
    refine Ev.step (f := fun _ => some 0) (fun k => ?_) ?_
    · simp only [trystref08_Clean.l0]; rw [if_neg (by omega)]
    · rw [List.drop_of_length_le (by simp)]; exact Ev.now _
  | n + 1, i, h, hi => by
    by_cases hlt : i < s.size
    · rw [drop_at s i hlt]
      have hb := bt_nat s i
      have ih := refClean_ev s f hs n (i + 1) (by omega) (by omega)
      generalize s.data.toList.getD i 0 = c at *
      have hc := c.toNat_lt
      refine Ev.step (f := fun k => if okB f c = true then trystref08_Clean.l0 k s f (s.size : Int) ((i + 1 : Nat) : Int) else some 7) (fun k => ?_) ?_
      · simp only [trystref08_Clean.l0, hb]
        rw [if_pos (by omega), if_pos (by omega), if_pos (by omega), wrap_one i (by omega)]
        by_cases h1 : c = 127
        · subst h1; rw [if_pos (show ((127 : UInt8).toNat : Int) = 127 from rfl), okB_127]; rfl
        · rw [if_neg (show ¬ (c.toNat : Int) = 127 from ne_nat c 127 (by omega) h1)]
          by_cases h2 : (c.toNat : Int) < 32
          · rw [if_pos h2]
            by_cases h3 : c = 9
            · subst h3; rw [if_pos (show ((9 : UInt8).toNat : Int) = 9 from rfl)]; cases f <;> rfl
            · rw [if_neg (show ¬ (c.toNat : Int) = 9 from ne_nat c 9 (by omega) h3)]
              have e2 : decide (c.toNat < 32) = true := by simp; omega
              cases f
              · rw [if_neg (by simp)]
                have : okB false c = false := by simp [okB, e2, h1, h3]
                rw [this]; rfl
              · rw [if_pos rfl]
                by_cases h4 : c = 10
                · subst h4; rw [if_pos (show ((10 : UInt8).toNat : Int) = 10 from rfl)]; rfl
                · rw [if_neg (show ¬ (c.toNat : Int) = 10 from ne_nat c 10 (by omega) h4)]
                  have : okB true c = false := by simp [okB, h1, h3, h4]; omega
                  rw [this]; rfl
          · rw [if_neg h2]
            have : okB f c = true := by simp [okB, h1]; omega
            rw [this]; rfl
      · rw [List.all_cons]
        cases hok : okB f c
        · exact Ev.now 7
        · simpa using ih
    · obtain rfl : i = s.size := by omega
      refine Ev.step (f := fun _ => some 0) (fun k => ?_) ?_
      · simp only [trystref08_Clean.l0]; rw [if_neg (by omega)]
      · rw [List.drop_of_length_le (by simp)]; exact Ev.now _
theorem refClean (s : ByteArray) (f : Bool) (hs : s.size ≤ 140737488351232) : Ev (fun k => trystref08_Clean.f k s f) (cleanR f s.data.toList) := by
  refine Ev.bind (UTF_all s hs) ?_
  unfold cleanR
  cases hv : Lib.validD s.data.toList
  · exact Ev.now 3
  · have := refClean_ev s f hs s.size 0 (by omega) (by omega)
    simpa using this
theorem control_some (c : UInt8) (f : Bool) : escape_control.f c.toNat f = some (!okB f c) := by
  have hc := c.toNat_lt
  unfold escape_control.f
  by_cases h3 : c = 9
  · subst h3; cases f <;> rfl
  · rw [if_neg (show ¬ (c.toNat : Int) = 9 from ne_nat c 9 (by omega) h3)]
    by_cases h4 : c = 10
    · subst h4; cases f <;> rfl
    · rw [if_neg (show ¬ (c.toNat : Int) = 10 from ne_nat c 10 (by omega) h4)]
      by_cases h2 : (c.toNat : Int) < 32
      · rw [if_pos h2]
        have : okB f c = false := by
          have e2 : decide (c.toNat < 32) = true := by simp; omega
          have e4 : (c == 10) = false := by simp [h4]
          have e9 : (c != 9) = true := by simp [h3]
          unfold okB; rw [e2, e4, e9]; cases f <;> simp
        rw [this]; rfl
      · rw [if_neg h2]
        have e2 : decide (c.toNat < 32) = false := by simp; omega
        by_cases h1 : c = 127
        · subst h1; cases f <;> rfl
        · have : ((c.toNat : Int) == 127) = false := beq_eq_false_iff_ne.2 (show ¬ (c.toNat : Int) = 127 from ne_nat c 127 (by omega) h1)
          have e1 : (c == 127) = false := by simp [h1]
          unfold okB; rw [this, e1, e2]; simp
theorem escClean_ev (s : ByteArray) (f : Bool) (hs : s.size ≤ 140737488351232) : ∀ (n i : Nat), s.size - i ≤ n → i ≤ s.size → Ev (fun k => escape_Clean.l0 k s f (s.size : Int) i) (if (s.data.toList.drop i).all (okB f) = true then (0 : Int) else 7)
  | 0, i, h, hi => by
    obtain rfl : i = s.size := by omega
    refine Ev.step (f := fun _ => some 0) (fun k => ?_) ?_
    · simp only [escape_Clean.l0]; rw [if_neg (by omega)]
    · rw [List.drop_of_length_le (by simp)]; exact Ev.now _
  | n + 1, i, h, hi => by
    by_cases hlt : i < s.size
    · rw [drop_at s i hlt]
      have hb := bt_nat s i
      have ih := escClean_ev s f hs n (i + 1) (by omega) (by omega)
      generalize s.data.toList.getD i 0 = c at *
      refine Ev.step (f := fun k => if okB f c = true then escape_Clean.l0 k s f (s.size : Int) ((i + 1 : Nat) : Int) else some 7) (fun k => ?_) ?_
      · simp only [escape_Clean.l0, hb, control_some, Option.bind_some]
        rw [if_pos (by omega), if_pos (by omega), if_pos (by omega), wrap_one i (by omega)]
        cases okB f c <;> rfl
      · rw [List.all_cons]
        cases hok : okB f c
        · exact Ev.now 7
        · simpa using ih
    · obtain rfl : i = s.size := by omega
      refine Ev.step (f := fun _ => some 0) (fun k => ?_) ?_
      · simp only [escape_Clean.l0]; rw [if_neg (by omega)]
      · rw [List.drop_of_length_le (by simp)]; exact Ev.now _
theorem escClean (s : ByteArray) (f : Bool) (hs : s.size ≤ 140737488351232) : Ev (fun k => escape_Clean.f k s f) (cleanR f s.data.toList) := by
  unfold escape_Clean.f
  have h1 : utf8_ValidString.f s = some (Lib.validD s.data.toList) := by unfold utf8_ValidString.f; rw [if_pos (by omega)]
  simp only [h1, Option.bind_some]
  unfold cleanR
  cases hv : Lib.validD s.data.toList
  · exact Ev.now 3
  · have := escClean_ev s f hs s.size 0 (by omega) (by omega)
    simpa using this
end Go.Proofs.YtknmbalhbecdhaaDoor.Pure
