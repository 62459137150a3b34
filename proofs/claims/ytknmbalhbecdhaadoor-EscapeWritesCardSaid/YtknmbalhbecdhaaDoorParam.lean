/- escape.Param, walked. -/
import Derived.Test.YtknmbalhbecdhaaDoorReplO
set_option linter.unusedVariables false
set_option linter.unusedSimpArgs false
namespace Go.Proofs.YtknmbalhbecdhaaDoor.Print
open Go.RowKit Go.Proofs.YtknmbalhbecdhaaDoorW.PrintWords Go.Proofs.YtknmbalhbecdhaaDoorW.PrintLast Go.Proofs.YtknmbalhbecdhaaDoorW.PrintMore
theorem contains_quo (l : List UInt8) : Lib.containsAny l [58, 59, 44] = l.any quoB := by
  unfold Lib.containsAny
  induction l with
  | nil => rfl
  | cons b t ih =>
    have hge := Lib.indexAny_ge [58, 59, 44] t
    have hc : ([58, 59, 44] : List UInt8).contains b = quoB b := by
      simp only [List.contains, List.elem_cons, List.elem_nil, quoB, Bool.or_false]
      cases b == 58 <;> cases b == 59 <;> cases b == 44 <;> rfl
    rw [List.any_cons, ← ih, Lib.indexAny, hc]
    cases quoB b with
    | true => simp
    | false =>
      simp only [Bool.false_eq_true, if_false, Bool.false_or]
      by_cases hm : Lib.indexAny t [58, 59, 44] = -1
      · rw [hm]; rfl
      · rw [if_neg (by simpa using hm)]
        rw [decide_eq_true (by omega), decide_eq_true (by omega)]
theorem parB_quo (c : UInt8) : (parB c).any quoB = quoB c := by
  by_cases h1 : c = 94
  · subst h1; rfl
  by_cases h2 : c = 10
  · subst h2; rfl
  by_cases h3 : c = 34
  · subst h3; rfl
  unfold parB
  rw [if_neg h1, if_neg h2, if_neg h3]; simp
theorem parT_quo (l : List UInt8) : (parT l).any quoB = l.any quoB := by
  induction l with
  | nil => rfl
  | cons c t ih => rw [parT_cons, List.any_append, List.any_cons, ih, parB_quo]
theorem Param_bad (k : Nat) (s : ByteArray) (z : Int) (hz : z ≠ 0) (w : World) (hG : GG w) (hC : Aside0 (escape_Clean.f k s true = some z)) :
    Calls Tryd.prog 23 #[.string s] w fun e w' => e = .returned (.tuple #[.string ⟨#[]⟩, .int .i64 z]) ∧ Below w.heap.size w w' := by
  have hz1 : (z == 0) = false := beq_eq_false_iff_ne.2 hz
  have hz2 : (z != 0) = true := bne_iff_ne.2 hz
  clear hz
  go_enter Tryd.func23, Tryd.ntmps23
  go_wp2_with (go_at_call 40; refine (escape_Clean.calls k s true z _ hG hC.out).mono ?_; rintro e w1 ⟨rfl, hb1⟩)
  go_ret2
  exact ⟨rfl, hb1⟩
/-- The six strings, as Param lays them. -/
def sixB : Array Value := #[.string ⟨#[94]⟩, .string ⟨#[94, 94]⟩, .string ⟨#[10]⟩, .string ⟨#[94, 110]⟩, .string ⟨#[34]⟩, .string ⟨#[94, 39]⟩]
theorem six_alloc (w : World) : Six w.heap.size (w.alloc (.cells sixB 9)) := by
  constructor <;> (rw [World.cell?_alloc_at _ _ _ _ rfl]; rfl)
set_option maxHeartbeats 8000000 in
set_option maxRecDepth 100000 in
theorem Param_ok (k : Nat) (s : ByteArray) (w : World) (hG : GG w) (hs : s.size ≤ 2000000000) (hC : Aside0 (escape_Clean.f k s true = some 0)) :
    Calls Tryd.prog 23 #[.string s] w fun e w' => e = .returned (.tuple #[.string (parW s), .int .i64 0]) ∧ Below w.heap.size w w' := by
  go_enter Tryd.func23, Tryd.ntmps23
  go_wp2_with (go_at_call 40; refine (escape_Clean.calls k s true 0 _ hG hC.out).mono ?_; rintro e w1 ⟨rfl, hb1⟩; have HB1 := Aside0.mk hb1; clear hb1)
  go_at_call 48
  refine (new_walk w1.heap.size _ (six_alloc w1)).mono ?_
  rintro e w2 ⟨p, c, cap, rfl, hR, hc, hcp, hB2⟩
  have HN := Aside0.mk (And.intro hR (And.intro hc (And.intro hcp hB2)))
  clear hR hc hcp hB2
  go_wp2_with fail
  go_at_call 49
  refine (repl_walk p c cap s _ HN.out.1 HN.out.2.2.1 hs).mono ?_
  rintro e w3 ⟨rfl, hB3⟩
  have H3 : Aside0 (Below w.heap.size w w3) := ⟨by
    have b1 := HB1.out
    have b2 := HN.out.2.2.2
    have hc := HN.out.2.1
    have hcp := HN.out.2.2.1
    have e1 : (w1.alloc (.cells sixB 9)).heap.size = w1.heap.size + 1 := by simp
    have ea : w1.heap.size + 1 ≤ c := by rw [← e1]; exact hc
    refine ((b1.alloc b1.size (.cells sixB 9)).trans (b2.mono (by rw [e1]; have := b1.size; omega))).trans (hB3.mono (by have := b1.size; omega))⟩
  clear hB3
  have hpl := parT_le s.data.toList
  have hsl : s.data.toList.length = s.size := by simp
  have hps : (⟨(parT s.data.toList).toArray⟩ : ByteArray).size = (parT s.data.toList).length := by simp [ByteArray.size]
  have hcf : strings_ContainsAny.f ⟨(parT s.data.toList).toArray⟩ ⟨#[58, 59, 44]⟩ = some (s.data.toList.any quoB) := by
    unfold strings_ContainsAny.f
    rw [if_pos ⟨by rw [hps]; omega, by decide, by decide, by decide⟩]
    show some (Lib.containsAny (parT s.data.toList) [58, 59, 44]) = _
    rw [contains_quo, parT_quo]
  have HC := Aside0.mk hcf
  have HP := Aside0.mk (And.intro hpl (And.intro hsl hps))
  clear hcf hpl hsl hps
  obtain ⟨P, hP⟩ : ∃ P : ByteArray, P = ⟨(parT s.data.toList).toArray⟩ := ⟨_, rfl⟩
  rw [← hP] at HC HP ⊢
  have HPd := Aside0.mk hP
  clear hP
  by_cases hq : s.data.toList.any quoB = true
  · rw [hq] at HC
    have b1 : (9223372036854775807 < 1 + P.size) = False := eq_false (by have := HP.out; omega)
    have b2 : (9223372036854775807 < 1 + P.size + 1) = False := eq_false (by have := HP.out; omega)
    have HQ := Aside0.mk hq
    clear hq
    go_wp2_with (go_at_call 42; refine (strings_ContainsAny.calls _ _ true _ (hG.below H3.out) HC.out).mono ?_; rintro e w4 ⟨rfl, hB4⟩; have H4 := Aside0.mk hB4; clear hB4)
    go_ret2
    refine ⟨?_, H3.out.trans (H4.out.mono H3.out.size)⟩
    have : parW s = ⟨#[34]⟩ ++ P ++ ⟨#[34]⟩ := by
      unfold parW parL
      rw [if_pos HQ.out, HPd.out]
      rfl
    rw [this]; rfl
  · rw [Bool.not_eq_true] at hq
    rw [hq] at HC
    have HQ := Aside0.mk hq
    clear hq
    go_wp2_with (go_at_call 42; refine (strings_ContainsAny.calls _ _ false _ (hG.below H3.out) HC.out).mono ?_; rintro e w4 ⟨rfl, hB4⟩; have H4 := Aside0.mk hB4; clear hB4)
    go_ret2
    refine ⟨?_, H3.out.trans (H4.out.mono H3.out.size)⟩
    have : parW s = P := by
      unfold parW parL
      rw [if_neg (by rw [HQ.out]; simp), HPd.out]
    rw [this]; rfl
theorem escape_Param.calls (k : Nat) (a0 : ByteArray) (r1 : ByteArray) (r2 : Int) (w : World) (hG : GG w) (h : escape_Param.f k a0 = some (r1, r2)) :
    Calls Tryd.prog 23 #[.string a0] w fun e w' => e = .returned (.tuple #[.string r1, .int .i64 r2]) ∧ Below w.heap.size w w' := by
  unfold escape_Param.f at h
  obtain ⟨z, hz, h⟩ := Option.bind_eq_some_iff.1 h
  by_cases h0 : z = 0
  · rw [if_pos h0] at h
    subst h0
    by_cases hs : a0.size ≤ 2000000000
    · rw [if_pos hs] at h
      obtain ⟨rfl, rfl⟩ := Prod.mk.inj (Option.some.inj h)
      exact Param_ok k a0 w hG hs ⟨hz⟩
    · rw [if_neg hs] at h; cases h
  · rw [if_neg h0] at h
    obtain ⟨rfl, rfl⟩ := Prod.mk.inj (Option.some.inj h)
    exact Param_bad k a0 _ h0 w hG ⟨hz⟩
end Go.Proofs.YtknmbalhbecdhaaDoor.Print
