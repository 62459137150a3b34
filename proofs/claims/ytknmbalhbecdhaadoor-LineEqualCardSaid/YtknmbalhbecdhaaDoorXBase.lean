/- What every walk of this family takes of the world (the tables of unicode/utf8 as they are laid), and the library's functions by their contracts, in the form in which the walks ask for them. -/
import Derived.Test.YtknmbalhbecdhaaDoorProg
import Derived.Test.YtknmbalhbecdhaaDoorWMore
import Derived.Test.YtknmbalhbecdhaaDoorShelf
import Derived.Test.YtknmbalhbecdhaaDoorRune
import Derived.Shelf.Unicode.ValidAny
set_option linter.unusedVariables false
set_option linter.unusedSimpArgs false
namespace Go.Proofs.YtknmbalhbecdhaaDoor.Print
open Go.RowKit Go.Proofs.YtknmbalhbecdhaaDoorW.PrintWords Go.Proofs.YtknmbalhbecdhaaDoorW.PrintLast Go.Proofs.YtknmbalhbecdhaaDoorW.PrintMore

theorem bne_nil_isEmpty (l : List UInt8) : (l != []) = !l.isEmpty := by cases l <;> rfl
theorem beq_nil_isEmpty (l : List UInt8) : (l == []) = l.isEmpty := by cases l <;> rfl
/-- The laid tables, read off a world. -/
theorem beq_ways {a b : Bool} (h : (a == b) = false) : (a = true ∧ b = false) ∨ (a = false ∧ b = true) := by cases a <;> cases b <;> simp_all
structure GG (w : World) : Prop where
  u8 : Lib.Utf8Tabs 0 1 w
theorem GG.below {w w' : World} (h : GG w) (hb : Below w.heap.size w w') : GG w' := ⟨Utf8Tabs_below h.u8 hb⟩
theorem GG.drewN {w : World} (h : GG w) (n : Nat) : GG (w.drewN n) := h.below (pw_below_drewN (Below.refl _ _) n)
theorem GG.drew {w : World} (h : GG w) : GG w.drew := h.below (below_drew (Below.refl _ _))
theorem GG.alloc {w : World} (h : GG w) (o : Obj) : GG (w.alloc o) := h.below (below_alloc (Below.refl _ _) o)

def strings_IndexByte.f (a0 : ByteArray) (a1 : Int) : Option Int := some (Lib.indexByte a0.data.toList a1.toNat.toUInt8)
theorem strings_IndexByte.calls (a0 : ByteArray) (a1 : Int) (r : Int) (w : World) (hG : GG w) (h : strings_IndexByte.f a0 a1 = some r) :
    Calls Tryd.prog 44 #[.string a0, .int .u8 a1] w fun e w' => e = .returned (.int .i64 r) ∧ Drawn0 w w' := by
  obtain rfl := Option.some.inj h
  exact (Tryd.strings_IndexByte a0 a1 w).mono fun e w' ⟨he, hw⟩ => ⟨he, hw ▸ Drawn0.refl _⟩

def utf8_ValidString.f (a0 : ByteArray) : Option Bool := if a0.size ≤ 9223372036854775807 then some (Lib.validD a0.data.toList) else none
theorem utf8_ValidString.calls (a0 : ByteArray) (r : Bool) (w : World) (hG : GG w) (h : utf8_ValidString.f a0 = some r) :
    Calls Tryd.prog 55 #[.string a0] w fun e w' => e = .returned (.bool r) ∧ Below w.heap.size w w' := by
  by_cases hs : a0.size ≤ 9223372036854775807
  · simp only [utf8_ValidString.f] at h
    rw [if_pos hs] at h
    obtain rfl := Option.some.inj h
    exact Any.utf8_ValidString Tryd.lays196 a0 w hs hG.u8
  · simp only [utf8_ValidString.f] at h
    rw [if_neg hs] at h
    cases h

def strings_ContainsRune.f (a0 : ByteArray) (a1 : Int) : Option Bool := if 0 ≤ a1 ∧ a1 < 128 then some (decide (0 ≤ Lib.indexByte a0.data.toList a1.toNat.toUInt8)) else none
set_option maxHeartbeats 1000000 in
theorem strings_ContainsRune.calls (a0 : ByteArray) (a1 : Int) (r : Bool) (w : World) (hG : GG w) (h : strings_ContainsRune.f a0 a1 = some r) :
    Calls Tryd.prog 93 #[.string a0, .int .i32 a1] w fun e w' => e = .returned (.bool r) ∧ Drawn0 w w' := by
  by_cases hs : 0 ≤ a1 ∧ a1 < 128
  · simp only [strings_ContainsRune.f] at h
    rw [if_pos hs] at h
    obtain rfl := Option.some.inj h
    go_enter Tryd.func93, Tryd.ntmps93
    go_wp2_with (go_at_call 82; refine (Tryd.strings_IndexRune_ascii _ _ _ hs.1 hs.2).mono ?_; rintro e w' ⟨rfl, hw⟩; rw [hw]; clear hw)
    go_ret
    exact ⟨rfl, Drawn0.refl _⟩
  · simp only [strings_ContainsRune.f] at h
    rw [if_neg hs] at h
    cases h

def strings_ContainsAny.f (a0 a1 : ByteArray) : Option Bool := if a0.size < 4294967281 ∧ 2 ≤ a1.size ∧ a1.size ≤ 1000 ∧ a1.data.toList.all (fun b => decide (b.toNat < 128)) = true then some (Lib.containsAny a0.data.toList a1.data.toList) else none
set_option maxHeartbeats 1000000 in
theorem strings_ContainsAny.calls (a0 a1 : ByteArray) (r : Bool) (w : World) (hG : GG w) (h : strings_ContainsAny.f a0 a1 = some r) :
    Calls Tryd.prog 42 #[.string a0, .string a1] w fun e w' => e = .returned (.bool r) ∧ Below w.heap.size w w' := by
  by_cases hs : a0.size < 4294967281 ∧ 2 ≤ a1.size ∧ a1.size ≤ 1000 ∧ a1.data.toList.all (fun b => decide (b.toNat < 128)) = true
  · simp only [strings_ContainsAny.f] at h
    rw [if_pos hs] at h
    obtain rfl := Option.some.inj h
    obtain ⟨h1, h2, h3, h4⟩ := hs
    have hall : ∀ b ∈ a1.data.toList, b.toNat < 128 := fun b hb => by simpa using List.all_eq_true.1 h4 b hb
    have hidx : ∀ W : World, Calls Tryd.prog 67 #[.string a0, .string a1] W fun e w' => e = .returned (.int .i64 (Lib.indexAny a0.data.toList a1.data.toList)) ∧ Below W.heap.size W w' := fun W => by
      by_cases h8 : a0.size ≤ 8
      · exact Rune.IndexAny_short a0 a1 hall h2 h3 h8 W
      · refine (Tryd.strings_IndexAny_long (fun _ => by kernel_rfl) a0 a1 W h2 (by omega) h1 (by omega) (fun j b hb => hall b (List.mem_of_getElem? hb))).mono ?_
        rintro e w' ⟨he, hw⟩
        exact ⟨he, by rw [hw]; exact ((Below.refl _ _).alloc (Nat.le_refl _) _).alloc (by simp) _⟩
    clear h4
    have H := Lib.hid hidx
    clear hidx
    go_enter Tryd.func42, Tryd.ntmps42
    go_wp2_with (go_at_call 67; refine (H.out _).mono ?_; rintro e w' ⟨rfl, hb⟩)
    go_ret
    exact ⟨rfl, hb⟩
  · simp only [strings_ContainsAny.f] at h
    rw [if_neg hs] at h
    cases h

def strings_Join.f (a0 : List ByteArray) (a1 : ByteArray) : Option ByteArray := if a0.length ≤ 140737488355328 ∧ (Lib.join (a0.map (·.data.toList)) a1.data.toList).length ≤ 140737488355328 then some ⟨(Lib.join (a0.map (·.data.toList)) a1.data.toList).toArray⟩ else none
theorem strings_Join.calls (A0 : Option Addr) (c0 : Nat) (l0 : List ByteArray) (a1 : ByteArray) (r : ByteArray) (w : World) (hG : GG w) (hr0 : Kd.C Kd.string w A0 l0.length l0) (hc0 : l0.length ≤ c0) (h : strings_Join.f l0 a1 = some r) :
    Calls Tryd.prog 38 #[.slice A0 l0.length c0, .string a1] w fun e w' => e = .returned (.string r) ∧ Below w.heap.size w w' := by
  by_cases hs : l0.length ≤ 140737488355328 ∧ (Lib.join (l0.map (·.data.toList)) a1.data.toList).length ≤ 140737488355328
  · simp only [strings_Join.f] at h
    rw [if_pos hs] at h
    obtain rfl := Option.some.inj h
    cases l0 with
    | nil => exact (Tryd.strings_Join_none A0 c0 a1 w).mono fun e w' ⟨he, hw⟩ => ⟨he, hw ▸ Below.refl _ _⟩
    | cons x t =>
      have hlt := hr0
      obtain ⟨_, _, hcell⟩ := Kd.reads_of_C (d := (⟨#[]⟩ : ByteArray)) (h1 := fun _ => rfl) hr0
      obtain ⟨ad, hA, hcl⟩ := hcell (by simp)
      subst hA
      have h0 := hcl 0 (by simp)
      obtain ⟨bk, o, sp⟩ := ad
      have hsp : sp = none := by
        cases sp with
        | none => rfl
        | some z =>
          simp only [Addr.add, if_true] at h0
          simp only [World.cell?] at h0
          split at h0 <;> simp at h0
      subst hsp
      have hbk : bk < w.heap.size := by
        rcases Nat.lt_or_ge bk w.heap.size with h9 | h9
        · exact h9
        · simp [Addr.add, World.cell?, Array.getElem?_eq_none h9] at h0
      refine Tryd.strings_Join bk o c0 (x :: t) a1 w (fun j y hy => ?_) hbk hs.1 hc0 hs.2
      have hj : j < (x :: t).length := (List.getElem?_eq_some_iff.1 hy).1
      have h1 := hcl j hj
      have e1 : (x :: t).getD j ⟨#[]⟩ = y := by rw [List.getD_eq_getElem?_getD, hy]; rfl
      rw [e1] at h1
      rw [← h1]
      congr 1
      unfold Addr.add
      split
      · rename_i h8; subst h8; rfl
      · rfl
  · simp only [strings_Join.f] at h
    rw [if_neg hs] at h
    cases h
end Go.Proofs.YtknmbalhbecdhaaDoor.Print
