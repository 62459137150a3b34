/- Texts of the proof of TreeFinds, put together: Shelf Rune XBase TabsU8 Args Print0 LArgs Sq Print8 Print1 Print2 Great RName LParse0 Print3 TBegin TEnds TLine LEq TParse. -/
import Derived.Shelf.Unicode.ValidAny
import Derived.Shelf.Strings.Builder1
import Derived.Shelf.Small.Utf8
import Derived.Shelf.Small.Strs
import Derived.Shelf.Strings.BuilderF
import Derived.Shelf.Strings.BuilderK
import Derived.Shelf.Strings.Search1
import Derived.Shelf.Strings.Prefix
import Derived.Shelf.Strings.Runes
import Derived.Shelf.Strings.IndexAny
import Derived.Shelf.Strings.AsciiSet
import Derived.Shelf.Strings.IndexAnyAll
import Derived.Shelf.Strings.BuilderCap
import Derived.Shelf.Slices.Equal
import Derived.Ground.Names2Prog
import Derived.Shelf.Slices.Clone
import Derived.Shelf.Slices.Empties2
import Derived.Test.YtdojmdbaiddkgaaDoorProg
import Derived.WalkKit
import Derived.WalkSpells
import Derived.Laws.Runes
import Derived.Laws.RangeAny
import Derived.Laws.RangeString
import Derived.Lib.IndexAny
import Derived.Lib.SpaceUEq
import Derived.Lib.RuneCount
import Derived.Lib.QuoteLoop
import Derived.Lib.Hide
import Derived.Lib.OthersKept
import Derived.Lib.DecodeN
import Derived.BigQuiet
import Derived.IntWalk
import Derived.Deep.QuietTactic
import Derived.Test.YtdojmdbaiddkgaaDoorWMore
import Derived.Test.YtdojmdbaiddkgaaDoorRows
import Derived.Lib.LaidU8T
import Derived.PinnedBridge
import Derived.MakeChecks
import Derived.ProofKit
import Derived.SliceStrings
import Derived.SizedLaws
import Derived.Deep.Slices
import Derived.Below
import Derived.Deep.Draws
import Derived.Deep.AppendLies
import Derived.Maps.AppendAt
import Derived.OwnWalk
import Derived.Laws.BytesArg
import Derived.Laws.MakeOwn
import Derived.Laws.OwnMore
import Derived.Deep.OwnRows
import Derived.Tactics
import Derived.Lib.ConvBytes
import Derived.Laws.Slices
import Derived.KernelRfl
import Derived.RowKit3
import Derived.Deep.LoopGhost
import Derived.WideLaws
import Derived.Deep.DeepCutAuto
import Derived.Deep.CutBlock
import Derived.Deep.RegionHeld3
import Derived.Laws.Rows
import Derived.Lib.AppendStr
import Derived.ArgAppend
import Derived.Laws.IdiomCopy
import Derived.OrdersHeld
import Derived.Laws.BitsLemmas
import Derived.RowKit
import Derived.Test.YtdojmdbaiddkgaaDoorWWords
import Derived.Test.YtdojmdbaiddkgaaDoorWLast
import Derived.Test.YtdojmdbaiddkgaaDoorWTab
import Derived.Test.YtdojmdbaiddkgaaDoorWQPut
import Derived.Test.YtdojmdbaiddkgaaDoorWApart
import Derived.Test.YtdojmdbaiddkgaaDoorWArr
import Derived.Test.YtdojmdbaiddkgaaDoorWZeros
import Derived.Test.YtdojmdbaiddkgaaDoorWFoot
import Derived.Test.YtdojmdbaiddkgaaDoorWKept
import Derived.Test.YtdojmdbaiddkgaaDoorWShare
import Derived.Test.YtdojmdbaiddkgaaDoorWN
import Derived.Test.YtdojmdbaiddkgaaDoorWRepsOne
import Derived.Test.YtdojmdbaiddkgaaDoorWInv
import Derived.Test.YtdojmdbaiddkgaaDoorWGuard
import Derived.Test.YtdojmdbaiddkgaaDoorWNEv
import Derived.Laws.IdiomStrings
import Derived.Outline
import Derived.Deep.RegionWith
import Derived.RegionCalls
import Derived.Laws.StructEq
section
namespace Go.Proofs
open Go.Shelf
open Go.RowKit in
open Go.RowKit in
open Go.RowKit in
def Tryd.lays137_ren : Go.Shelf.Ren := ⟨fun | 137 => 49 | 217 => 55 | 266 => 61 | n => n, fun | 9 => 9 | 5 => 5 | 3 => 3 | n => n, fun | n => n⟩
theorem Tryd.lays137 : Go.Proofs.Lays.n137 Tryd.prog Tryd.lays137_ren := {
  mixed := by kernel_rfl
  f137 := Tryd.func49.trans (congrArg some (by kernel_rfl))
  f217 := Tryd.func55.trans (congrArg some (by kernel_rfl))
  f266 := Tryd.func61.trans (congrArg some (by kernel_rfl))
  t3 := Tryd.underlying3
  a3 := Tryd.isAgg3
  z3 := Tryd.sizeOf3
  v3 := Tryd.zeroValue3
  t5 := Tryd.underlying5
  a5 := Tryd.isAgg5
  z5 := Tryd.sizeOf5
  v5 := Tryd.zeroValue5
  t9 := Tryd.underlying9
  a9 := Tryd.isAgg9
  z9 := Tryd.sizeOf9
  v9 := Tryd.zeroValue9 }
open Go.RowKit in
/-- strings.IndexByte: "IndexByte returns the index of the first instance of c in s, or -1 if c is not present in s.": IT RETURNS 'Lib.indexByte s c'; the world is as it was. (LAID: no walk: one application.) -/
theorem Tryd.strings_IndexByte (s : ByteArray) (c : Int) (w : World) :
    Calls Tryd.prog 49 #[.string s, .int .u8 c] w fun e w' => e = .returned (.int .i64 (Lib.indexByte s.data.toList c.toNat.toUInt8)) ∧ w' = w := Any.strings_IndexByte Tryd.lays137 s c w
open Go.RowKit in
open Go.RowKit in
open Go.RowKit in
open Go.RowKit in
open Go.RowKit in
open Go.RowKit in
open Go.RowKit Go.Lib in
open Go.RowKit Go.Lib in
open Go.RowKit Go.Lib in
open Go.RowKit Go.Lib in
def Tryd.lays207_ren : Go.Shelf.Ren := ⟨fun | 207 => 62 | n => n, fun | 9 => 9 | 4 => 4 | 3 => 3 | n => n, fun | n => n⟩
theorem Tryd.lays207 : Go.Proofs.Lays.n207 Tryd.prog Tryd.lays207_ren := {
  mixed := by kernel_rfl
  f207 := Tryd.func62.trans (congrArg some (by kernel_rfl))
  t3 := Tryd.underlying3
  a3 := Tryd.isAgg3
  z3 := Tryd.sizeOf3
  v3 := Tryd.zeroValue3
  t4 := Tryd.underlying4
  a4 := Tryd.isAgg4
  z4 := Tryd.sizeOf4
  v4 := Tryd.zeroValue4
  t9 := Tryd.underlying9
  a9 := Tryd.isAgg9
  z9 := Tryd.sizeOf9
  v9 := Tryd.zeroValue9 }
open Go.RowKit Go.Lib in
/-- internal/stringslite.HasSuffix (what strings.HasSuffix calls). (LAID: no walk: one application.) -/
theorem Tryd.stringslite_HasSuffix (s p : ByteArray) (w : World) (hs : s.size ≤ 9223372036854775807) :
    Calls Tryd.prog 62 #[.string s, .string p] w fun e w' => e = .returned (.bool (Lib.hasSuffix s.data.toList p.data.toList)) ∧ w' = w := Any.stringslite_HasSuffix Tryd.lays207 s p w hs
def Tryd.lays209_ren : Go.Shelf.Ren := ⟨fun | 209 => 56 | 207 => 62 | n => n, fun | 9 => 9 | 4 => 4 | 3 => 3 | n => n, fun | n => n⟩
theorem Tryd.lays209 : Go.Proofs.Lays.n209 Tryd.prog Tryd.lays209_ren := {
  mixed := by kernel_rfl
  f207 := Tryd.func62.trans (congrArg some (by kernel_rfl))
  f209 := Tryd.func56.trans (congrArg some (by kernel_rfl))
  t3 := Tryd.underlying3
  a3 := Tryd.isAgg3
  z3 := Tryd.sizeOf3
  v3 := Tryd.zeroValue3
  t4 := Tryd.underlying4
  a4 := Tryd.isAgg4
  z4 := Tryd.sizeOf4
  v4 := Tryd.zeroValue4
  t9 := Tryd.underlying9
  a9 := Tryd.isAgg9
  z9 := Tryd.sizeOf9
  v9 := Tryd.zeroValue9 }
open Go.RowKit Go.Lib in
/-- internal/stringslite.TrimSuffix (what strings.TrimSuffix calls). (LAID: no walk: one application.) -/
theorem Tryd.stringslite_TrimSuffix (s p : ByteArray) (w : World) (hs : s.size ≤ 9223372036854775807) :
    Calls Tryd.prog 56 #[.string s, .string p] w fun e w' => e = .returned (.string ⟨(Lib.trimSuffix s.data.toList p.data.toList).toArray⟩) ∧ w' = w := Any.stringslite_TrimSuffix Tryd.lays209 s p w hs
def Tryd.lays102_ren : Go.Shelf.Ren := ⟨fun | 102 => 50 | 209 => 56 | 207 => 62 | n => n, fun | 9 => 9 | 4 => 4 | 3 => 3 | n => n, fun | n => n⟩
theorem Tryd.lays102 : Go.Proofs.Lays.n102 Tryd.prog Tryd.lays102_ren := {
  mixed := by kernel_rfl
  f102 := Tryd.func50.trans (congrArg some (by kernel_rfl))
  f207 := Tryd.func62.trans (congrArg some (by kernel_rfl))
  f209 := Tryd.func56.trans (congrArg some (by kernel_rfl))
  t3 := Tryd.underlying3
  a3 := Tryd.isAgg3
  z3 := Tryd.sizeOf3
  v3 := Tryd.zeroValue3
  t4 := Tryd.underlying4
  a4 := Tryd.isAgg4
  z4 := Tryd.sizeOf4
  v4 := Tryd.zeroValue4
  t9 := Tryd.underlying9
  a9 := Tryd.isAgg9
  z9 := Tryd.sizeOf9
  v9 := Tryd.zeroValue9 }
open Go.RowKit Go.Lib in
/-- strings.TrimSuffix: "TrimSuffix returns s without the provided trailing suffix string. If s doesn't end with suffix, s is returned unchanged.": IT RETURNS 'Lib.trimSuffix s suffix'; the world is as it was. (LAID: no walk: one application.) -/
theorem Tryd.strings_TrimSuffix (s p : ByteArray) (w : World) (hs : s.size ≤ 9223372036854775807) :
    Calls Tryd.prog 50 #[.string s, .string p] w fun e w' => e = .returned (.string ⟨(Lib.trimSuffix s.data.toList p.data.toList).toArray⟩) ∧ w' = w := Any.strings_TrimSuffix Tryd.lays102 s p w hs
def Tryd.lays152_ren : Go.Shelf.Ren := ⟨fun | 152 => 57 | 137 => 49 | 119 => 63 | 224 => 64 | 225 => 65 | 217 => 55 | 266 => 61 | n => n, fun | 9 => 9 | 21 => 21 | 3 => 3 | 4 => 4 | 5 => 5 | 0 => 0 | 46 => 99 | n => n, fun | n => n⟩
theorem Tryd.lays152 : Go.Proofs.Lays.n152 Tryd.prog Tryd.lays152_ren := {
  mixed := by kernel_rfl
  f119 := Tryd.func63.trans (congrArg some (by kernel_rfl))
  f137 := Tryd.func49.trans (congrArg some (by kernel_rfl))
  f152 := Tryd.func57.trans (congrArg some (by kernel_rfl))
  f217 := Tryd.func55.trans (congrArg some (by kernel_rfl))
  f224 := Tryd.func64.trans (congrArg some (by kernel_rfl))
  f225 := Tryd.func65.trans (congrArg some (by kernel_rfl))
  f266 := Tryd.func61.trans (congrArg some (by kernel_rfl))
  t0 := Tryd.underlying0
  a0 := Tryd.isAgg0
  z0 := Tryd.sizeOf0
  v0 := Tryd.zeroValue0
  t3 := Tryd.underlying3
  a3 := Tryd.isAgg3
  z3 := Tryd.sizeOf3
  v3 := Tryd.zeroValue3
  t4 := Tryd.underlying4
  a4 := Tryd.isAgg4
  z4 := Tryd.sizeOf4
  v4 := Tryd.zeroValue4
  t5 := Tryd.underlying5
  a5 := Tryd.isAgg5
  z5 := Tryd.sizeOf5
  v5 := Tryd.zeroValue5
  t9 := Tryd.underlying9
  a9 := Tryd.isAgg9
  z9 := Tryd.sizeOf9
  v9 := Tryd.zeroValue9
  t21 := Tryd.underlying21
  a21 := Tryd.isAgg21
  z21 := Tryd.sizeOf21
  v21 := Tryd.zeroValue21
  t46 := Tryd.underlying99
  a46 := Tryd.isAgg99
  z46 := Tryd.sizeOf99
  v46 := Tryd.zeroValue99 }
open Go.RowKit Go.Lib in
theorem Tryd.strings_IndexRune_ascii (s : ByteArray) (r : Int) (w : World) (h0 : 0 ≤ r) (h1 : r < 128) :
    Calls Tryd.prog 57 #[.string s, .int .i32 r] w fun e w' => e = .returned (.int .i64 (Lib.indexByte s.data.toList r.toNat.toUInt8)) ∧ w' = w := Any.strings_IndexRune_ascii Tryd.lays152 s r w h0 h1
open Go.RowKit Go.Lib in
open Go.RowKit Go.Lib in
open Go.RowKit Go.Lib in
open Go.RowKit Go.Lib in
open Go.RowKit Go.Lib in
open Go.RowKit Go.Lib in
open Go.RowKit Go.Lib in
open Go.RowKit Go.Lib in
open Go.RowKit Go.Lib in
open Go.RowKit Go.Lib in
open Go.RowKit Go.Lib in
open Go.RowKit Go.Lib in
def Tryd.lays193_ren : Go.Shelf.Ren := ⟨fun | 193 => 22 | n => n, fun | 31 => 57 | 9 => 9 | 4 => 4 | 3 => 3 | 0 => 0 | n => n, fun | n => n⟩
theorem Tryd.lays193 : Go.Proofs.Lays.n193 Tryd.prog Tryd.lays193_ren := {
  mixed := by kernel_rfl
  f193 := Tryd.func22.trans (congrArg some (by kernel_rfl))
  t0 := Tryd.underlying0
  a0 := Tryd.isAgg0
  z0 := Tryd.sizeOf0
  v0 := Tryd.zeroValue0
  t3 := Tryd.underlying3
  a3 := Tryd.isAgg3
  z3 := Tryd.sizeOf3
  v3 := Tryd.zeroValue3
  t4 := Tryd.underlying4
  a4 := Tryd.isAgg4
  z4 := Tryd.sizeOf4
  v4 := Tryd.zeroValue4
  t9 := Tryd.underlying9
  a9 := Tryd.isAgg9
  z9 := Tryd.sizeOf9
  v9 := Tryd.zeroValue9
  t31 := Tryd.underlying57
  a31 := Tryd.isAgg57
  z31 := Tryd.sizeOf57
  v31 := Tryd.zeroValue57 }
open Go.RowKit Go.Lib in
/-- slices.Equal at []string: "Equal reports whether two slices are equal: the same length and all elements equal. If the lengths are different, Equal returns false. Otherwise, the elements are compared in increasing index order, and the comparison stops at the first unequal pair. Empty and nil slices are considered equal.": IT RETURNS WHETHER THE TWO LISTS OF ELEMENTS ARE ONE; the world is as it was but for the count of draws (the test 's1[i] != s2[i]' has two reads, whose order the model draws, once a round). 'xs', 'ys': what the cells behind the two addresses hold (the spare capacity too, if you have it); 'xs.take n', 'ys.take m': the elements. THE TWO SLICES MAY OVERLAP. (LAID: no walk: one application.) -/
theorem Tryd.slices_Equal_string (b1 o1 n c b2 o2 m d : Nat) (xs ys : List ByteArray) (w : World) (hx : n ≤ xs.length) (hy : m ≤ ys.length) (hbig : n ≤ 9223372036854775807) (hbig2 : m ≤ 9223372036854775807) (hc1 : ∀ j, j < xs.length → w.cell? ⟨b1, o1 + j, none⟩ = some (.string (xs.getD j ByteArray.empty))) (hc2 : ∀ j, j < ys.length → w.cell? ⟨b2, o2 + j, none⟩ = some (.string (ys.getD j ByteArray.empty))) :
    Calls Tryd.prog 22 #[.slice (some ⟨b1, o1, none⟩) n c, .slice (some ⟨b2, o2, none⟩) m d] w fun e w' => e = .returned (.bool (decide (xs.take n = ys.take m))) ∧ ∃ q, w' = w.drewN q := Any.slices_Equal_string Tryd.lays193 b1 o1 n c b2 o2 m d xs ys w hx hy hbig hbig2 hc1 hc2
open Go.RowKit Go.Lib in
/-- The same where the first is of length 0 (a nil one too): no cell is asked for. (LAID: no walk: one application.) -/
theorem Tryd.slices_Equal_string_empty (a1 a2 : Option Addr) (c m d : Nat) (w : World) (hbig2 : m ≤ 9223372036854775807) :
    Calls Tryd.prog 22 #[.slice a1 0 c, .slice a2 m d] w fun e w' => e = .returned (.bool (decide (m = 0))) ∧ w' = w := Any.slices_Equal_string_empty Tryd.lays193 a1 a2 c m d w hbig2
open Go.RowKit Go.Lib in
open Go.RowKit Go.Lib in
open Go.RowKit Go.Lib in
open Go.RowKit Go.Lib in
theorem Tryd.slices_Equal_string_lens (a1 a2 : Option Addr) (n c m d : Nat) (w : World) (hnm : n ≠ m) :
    Calls Tryd.prog 22 #[.slice a1 n c, .slice a2 m d] w fun e w' => e = .returned (.bool false) ∧ w' = w := Any.slices_Equal_string_lens Tryd.lays193 a1 a2 n c m d w hnm
def Tryd.lays196_ren : Go.Shelf.Ren := ⟨fun | 196 => 31 | 259 => 44 | n => n, fun | 9 => 9 | 4 => 4 | 3 => 3 | 5 => 5 | 12 => 12 | 119 => 95 | 0 => 0 | 46 => 99 | 139 => 98 | 138 => 97 | 53 => 106 | n => n, fun | 3 => 0 | 4 => 1 | n => n⟩
theorem Tryd.lays196 : Go.Proofs.Lays.n196 Tryd.prog Tryd.lays196_ren := {
  mixed := by kernel_rfl
  f196 := Tryd.func31.trans (congrArg some (by kernel_rfl))
  f259 := Tryd.func44.trans (congrArg some (by kernel_rfl))
  t0 := Tryd.underlying0
  a0 := Tryd.isAgg0
  z0 := Tryd.sizeOf0
  v0 := Tryd.zeroValue0
  t3 := Tryd.underlying3
  a3 := Tryd.isAgg3
  z3 := Tryd.sizeOf3
  v3 := Tryd.zeroValue3
  t4 := Tryd.underlying4
  a4 := Tryd.isAgg4
  z4 := Tryd.sizeOf4
  v4 := Tryd.zeroValue4
  t5 := Tryd.underlying5
  a5 := Tryd.isAgg5
  z5 := Tryd.sizeOf5
  v5 := Tryd.zeroValue5
  t9 := Tryd.underlying9
  a9 := Tryd.isAgg9
  z9 := Tryd.sizeOf9
  v9 := Tryd.zeroValue9
  t12 := Tryd.underlying12
  a12 := Tryd.isAgg12
  z12 := Tryd.sizeOf12
  v12 := Tryd.zeroValue12
  t46 := Tryd.underlying99
  a46 := Tryd.isAgg99
  z46 := Tryd.sizeOf99
  v46 := Tryd.zeroValue99
  t53 := Tryd.underlying106
  a53 := Tryd.isAgg106
  z53 := Tryd.sizeOf106
  v53 := Tryd.zeroValue106
  t119 := Tryd.underlying95
  a119 := Tryd.isAgg95
  z119 := Tryd.sizeOf95
  t138 := Tryd.underlying97
  a138 := Tryd.isAgg97
  z138 := Tryd.sizeOf97
  v138 := Tryd.zeroValue97
  t139 := Tryd.underlying98
  a139 := Tryd.isAgg98
  z139 := Tryd.sizeOf98
  v139 := Tryd.zeroValue98
  g3 := by kernel_rfl
  g4 := by kernel_rfl }
end Go.Proofs
end
section
set_option linter.unusedVariables false
set_option linter.unusedSimpArgs false
namespace Go.Proofs.YtdojmdbaiddkgaaDoor.Rune
open Go.RowKit
theorem Drawn2.below (w : World) (n : Nat) : Below w.heap.size w (w.drewN n) := ⟨rfl, rfl, rfl, Nat.le_refl _, fun _ _ => rfl⟩
structure Aside0 (p : Prop) : Prop where mk :: (out : p)
end Go.Proofs.YtdojmdbaiddkgaaDoor.Rune
end
section
set_option linter.unusedVariables false
set_option linter.unusedSimpArgs false
namespace Go.Proofs.YtdojmdbaiddkgaaDoor.Print
open Go.RowKit Go.Proofs.YtdojmdbaiddkgaaDoorW.PrintWords Go.Proofs.YtdojmdbaiddkgaaDoorW.PrintLast Go.Proofs.YtdojmdbaiddkgaaDoorW.PrintMore
theorem bne_nil_isEmpty (l : List UInt8) : (l != []) = !l.isEmpty := by cases l <;> rfl
theorem beq_nil_isEmpty (l : List UInt8) : (l == []) = l.isEmpty := by cases l <;> rfl
structure GG (w : World) : Prop where
  u8 : Lib.Utf8Tabs 0 1 w
theorem GG.below {w w' : World} (h : GG w) (hb : Below w.heap.size w w') : GG w' := ⟨Utf8Tabs_below h.u8 hb⟩
theorem GG.drewN {w : World} (h : GG w) (n : Nat) : GG (w.drewN n) := h.below (pw_below_drewN (Below.refl _ _) n)
theorem GG.drew {w : World} (h : GG w) : GG w.drew := h.below (below_drew (Below.refl _ _))
theorem GG.alloc {w : World} (h : GG w) (o : Obj) : GG (w.alloc o) := h.below (below_alloc (Below.refl _ _) o)
def strings_IndexByte.f (a0 : ByteArray) (a1 : Int) : Option Int := some (Lib.indexByte a0.data.toList a1.toNat.toUInt8)
theorem strings_IndexByte.calls (a0 : ByteArray) (a1 : Int) (r : Int) (w : World) (hG : GG w) (h : strings_IndexByte.f a0 a1 = some r) :
    Calls Tryd.prog 49 #[.string a0, .int .u8 a1] w fun e w' => e = .returned (.int .i64 r) ∧ Drawn0 w w' := by
  obtain rfl := Option.some.inj h
  exact (Tryd.strings_IndexByte a0 a1 w).mono fun e w' ⟨he, hw⟩ => ⟨he, hw ▸ Drawn0.refl _⟩
def utf8_ValidString.f (a0 : ByteArray) : Option Bool := if a0.size ≤ 9223372036854775807 then some (Lib.validD a0.data.toList) else none
theorem utf8_ValidString.calls (a0 : ByteArray) (r : Bool) (w : World) (hG : GG w) (h : utf8_ValidString.f a0 = some r) :
    Calls Tryd.prog 31 #[.string a0] w fun e w' => e = .returned (.bool r) ∧ Below w.heap.size w w' := by
  by_cases hs : a0.size ≤ 9223372036854775807
  · simp only [utf8_ValidString.f] at h
    rw [if_pos hs] at h
    obtain rfl := Option.some.inj h
    exact Any.utf8_ValidString Tryd.lays196 a0 w hs hG.u8
  · simp only [utf8_ValidString.f] at h
    rw [if_neg hs] at h
    cases h
def strings_ContainsRune.f (a0 : ByteArray) (a1 : Int) : Option Bool := if 0 ≤ a1 ∧ a1 < 128 then some (decide (0 ≤ Lib.indexByte a0.data.toList a1.toNat.toUInt8)) else none
set_option maxHeartbeats 1000000 in
theorem strings_ContainsRune.calls (a0 : ByteArray) (a1 : Int) (r : Bool) (w : World) (hG : GG w) (h : strings_ContainsRune.f a0 a1 = some r) :
    Calls Tryd.prog 51 #[.string a0, .int .i32 a1] w fun e w' => e = .returned (.bool r) ∧ Drawn0 w w' := by
  by_cases hs : 0 ≤ a1 ∧ a1 < 128
  · simp only [strings_ContainsRune.f] at h
    rw [if_pos hs] at h
    obtain rfl := Option.some.inj h
    go_enter Tryd.func51, Tryd.ntmps51
    go_wp2_with (go_at_call 57; refine (Tryd.strings_IndexRune_ascii _ _ _ hs.1 hs.2).mono ?_; rintro e w' ⟨rfl, hw⟩; rw [hw]; clear hw)
    go_ret
    exact ⟨rfl, Drawn0.refl _⟩
  · simp only [strings_ContainsRune.f] at h
    rw [if_neg hs] at h
    cases h
end Go.Proofs.YtdojmdbaiddkgaaDoor.Print
end
section
set_option linter.unusedVariables false
namespace Go.Proofs.YtdojmdbaiddkgaaDoor.Tabs
open Go Go.RowKit Go.Lib
def gFirst : Nat := 0
def gAccept : Nat := 1
theorem gg_of_reads {w : World} (h3 : VarReads Tryd.prog w "unicode/utf8.first" firstData) (h4 : VarReads Tryd.prog w "unicode/utf8.acceptRanges" acceptData) : Print.GG w :=
  ⟨utf8Tabs_of_readsT (U8Types.of196 Tryd.lays196) ⟨by kernel_rfl, by kernel_rfl, by kernel_rfl, by kernel_rfl, by kernel_rfl, by kernel_rfl, by kernel_rfl⟩ h3 h4⟩
theorem gg_of_laid {W : World} (h : laidMet Tryd.prog [("unicode/utf8.acceptRanges", Rows.laid_unicode_utf8_acceptRanges), ("unicode/utf8.first", Rows.laid_unicode_utf8_first)] W) : Print.GG W :=
  gg_of_reads (by have := Lib.laidMet.reads h (n := "unicode/utf8.first") (.tail _ (.head _)); rw [show Rows.laid_unicode_utf8_first = firstData from Pinned.utf8First_eq] at this; exact this) (Lib.laidMet.reads h (n := "unicode/utf8.acceptRanges") (.head _))
end Go.Proofs.YtdojmdbaiddkgaaDoor.Tabs
end
section
set_option linter.unusedVariables false
set_option linter.unusedSimpArgs false
namespace Go.Proofs.YtdojmdbaiddkgaaDoor.Args
open Go Go.RowKit Go.Lib Go.Proofs.YtdojmdbaiddkgaaDoorW.PrintWords
/-- A type's data read as a kind, with what the form's reach says of it. -/
def Rd {α : Type} (d : Kd α) (t : TypeId) (B : α → Prop) : Prop := ∀ (H : Type) (enc : TypeId × Value → H) (W : World) (fuel : Nat) (cs : List Value) (x : DataW H × List MemPlace), DataW.trod enc Tryd.prog W 0 (fun _ => true) true fuel t cs = some x → (∀ n ∈ x.1.weights Tryd.prog t, n ≤ reachBytes) → ∃ a, d.K W a cs ∧ B a
theorem Rd.string {t : TypeId} (ht : Tryd.prog.underlying t = some .string) : Rd Kd.string t (fun s => s.size ≤ 140737488351232) := by
  intro H enc W fuel cs x h hw
  obtain ⟨s, rfl, rfl, _⟩ := DataW.trod_string ht h
  refine ⟨s, rfl, ?_⟩
  have := hw s.data.toList.length (by simp [DataW.weights])
  rw [Array.length_toList] at this
  exact this
theorem Rd.int {k : IntKind} {t : TypeId} (ht : Tryd.prog.underlying t = some (.int k)) : Rd (Kd.int k) t (fun n => (Lit.int k n).wf = true) := by
  intro H enc W fuel cs x h hw
  obtain ⟨n, rfl, rfl, hn⟩ := DataW.trod_int ht h
  exact ⟨n, rfl, hn⟩
theorem Rd.bool {t : TypeId} (ht : Tryd.prog.underlying t = some .bool) : Rd Kd.bool t (fun _ => True) := by
  intro H enc W fuel cs x h hw
  obtain ⟨b, rfl, rfl⟩ := DataW.trod_bool ht h
  exact ⟨b, rfl, trivial⟩
theorem exists_list {α : Type} {Q : Nat → α → Prop} : ∀ (n : Nat), (∀ i, i < n → ∃ a, Q i a) → ∃ l : List α, l.length = n ∧ ∀ i a, l[i]? = some a → Q i a
  | 0, _ => ⟨[], rfl, fun i a h => by simp at h⟩
  | n + 1, h => by
    obtain ⟨l, hl, hq⟩ := exists_list n (fun i hi => h i (by omega))
    obtain ⟨a, ha⟩ := h n (by omega)
    refine ⟨l ++ [a], by simp [hl], fun i b hb => ?_⟩
    by_cases hi : i < n
    · rw [List.getElem?_append_left (by omega)] at hb; exact hq i b hb
    · have hlt := (List.getElem?_eq_some_iff.1 hb).1
      rw [List.length_append, List.length_singleton] at hlt
      obtain rfl : i = n := by omega
      rw [List.getElem?_append_right (by omega), hl, Nat.sub_self] at hb
      obtain rfl : a = b := by simpa using hb
      exact ha
theorem mem_weightsAll {H : Type} {e : TypeId} {d : DataW H} : ∀ {l : List (DataW H)}, d ∈ l → ∀ n ∈ d.weights Tryd.prog e, n ∈ DataW.weightsAll Tryd.prog e l
  | x :: t, h, n, hn => by
    simp only [DataW.weightsAll, List.mem_append]
    rcases List.mem_cons.1 h with rfl | h
    · exact .inl hn
    · exact .inr (mem_weightsAll h n hn)
theorem Rd.slice {α : Type} {d : Kd α} {t e : TypeId} {B : α → Prop} (ht : Tryd.prog.underlying t = some (.slice e)) (hc : Tryd.prog.cellsOf e = d.sz) (hz : 0 < d.sz) (nb : Nat) (hnb : Tryd.prog.bytesOf e = nb) (hd : Rd d e B) : Rd (Kd.slice e d) t (fun l => l.length * nb ≤ 140737488351232 ∧ ∀ a ∈ l, B a) := by
  subst hnb
  intro H enc W fuel cs x h hw
  rcases DataW.trod_slice ht h with ⟨rfl, rfl⟩ | ⟨a, len, cap, elems, rest, n, rfl, rfl, rfl, _, hlc, hcm, hel, hget, _, _⟩
  · exact ⟨[], ⟨none, 0, rfl, Nat.le_refl _, rfl, by simp, fun h => absurd h (by simp)⟩, by simp, fun a h => by simp at h⟩
  · have hws : ∀ q ∈ ((DataW.slice (elems.map (·.1)) (rest.map (·.1))) : DataW H).weights Tryd.prog t, q ≤ reachBytes := hw
    simp only [DataW.weights, ht] at hws
    have hq : ∀ i, i < len → ∃ a', ∃ c : List Value, (c.length = d.sz ∧ d.K W a' c ∧ ∀ j u, c[j]? = some u → W.cell? (a.add (i * d.sz + j)) = some u) ∧ B a' := by
      intro i hi
      have h1 := hget i hi
      have hie : i < elems.length := by omega
      rw [List.getElem?_eq_getElem hie] at h1
      obtain ⟨cs', hcs, htr⟩ := Option.bind_eq_some_iff.1 h1
      obtain ⟨_, hcl, hcc⟩ := World.cells?_some hcs
      obtain ⟨a', hK, hB⟩ := hd H enc W n cs' elems[i] htr (fun q hq => hws q (List.mem_cons_of_mem _ (List.mem_append_left _ (mem_weightsAll (List.mem_map.2 ⟨elems[i], List.getElem_mem hie, rfl⟩) q hq))))
      refine ⟨a', cs', ⟨by rw [hcl, hc], hK, fun j u hu => ?_⟩, hB⟩
      have hj : j < Tryd.prog.cellsOf e := by have := (List.getElem?_eq_some_iff.1 hu).1; omega
      have h2 := hcc j hj
      rw [Go.Deep.add_add, hc] at h2
      rw [h2, hu]
    obtain ⟨l, hl, hQ⟩ := exists_list len hq
    refine ⟨l, ⟨some a, cap, by rw [hl], by omega, rfl, by unfold maxLen at hcm; omega, fun _ => ⟨a, rfl, fun j p hj => ?_⟩⟩, ?_, fun p hp => ?_⟩
    · obtain ⟨c, ⟨h1, h2, h3⟩, _⟩ := hQ j p hj
      exact ⟨c, h1, h2, h3⟩
    · have := hws _ List.mem_cons_self
      rw [List.length_map, List.length_map, hel] at this
      rw [hl]
      refine Nat.le_trans (Nat.mul_le_mul_right _ (by omega)) this
    · obtain ⟨i, hi, rfl⟩ := List.mem_iff_getElem.1 hp
      exact (hQ i _ (List.getElem?_eq_getElem hi)).choose_spec.2
/-- Fields, one behind the other. -/
def Trods {H : Type} (enc : TypeId × Value → H) (W : World) (fuel : Nat) : List TypeId → List Value → List (DataW H × List MemPlace) → Prop
  | [], cs, xs => cs = [] ∧ xs = []
  | t :: ts, cs, xs => ∃ c0 c1 x0 x1, cs = c0 ++ c1 ∧ xs = x0 :: x1 ∧ DataW.trod enc Tryd.prog W 0 (fun _ => true) true fuel t c0 = some x0 ∧ Trods enc W fuel ts c1 x1
def RdF {α : Type} (d : Kd α) (ts : List TypeId) (B : α → Prop) : Prop := ∀ (H : Type) (enc : TypeId × Value → H) (W : World) (fuel : Nat) (cs : List Value) (xs : List (DataW H × List MemPlace)), Trods enc W fuel ts cs xs → (∀ n ∈ DataW.weightsEach Tryd.prog ts (xs.map (·.1)), n ≤ reachBytes) → ∃ a, d.K W a cs ∧ B a
theorem RdF.one {α : Type} {d : Kd α} {t : TypeId} {B : α → Prop} (h : Rd d t B) : RdF d [t] B := by
  intro H enc W fuel cs xs ht hw
  obtain ⟨c0, c1, x0, x1, rfl, rfl, h0, rfl, rfl⟩ := ht
  rw [List.append_nil]
  exact h H enc W fuel c0 x0 h0 (fun n hn => hw n (by simp only [List.map_cons, DataW.weightsEach]; exact List.mem_append_left _ hn))
theorem RdF.cons {α β : Type} {d0 : Kd α} {d1 : Kd β} {t : TypeId} {ts : List TypeId} {B0 : α → Prop} {B1 : β → Prop} (h0 : Rd d0 t B0) (h1 : RdF d1 ts B1) : RdF (Kd.pair d0 d1) (t :: ts) (fun x => B0 x.1 ∧ B1 x.2) := by
  intro H enc W fuel cs xs ht hw
  obtain ⟨c0, c1, x0, x1, rfl, rfl, g0, g1⟩ := ht
  obtain ⟨a, ha, hb⟩ := h0 H enc W fuel c0 x0 g0 (fun n hn => hw n (by simp only [List.map_cons, DataW.weightsEach]; exact List.mem_append_left _ hn))
  obtain ⟨b, hb1, hb2⟩ := h1 H enc W fuel c1 x1 g1 (fun n hn => hw n (by simp only [List.map_cons, DataW.weightsEach]; exact List.mem_append_right _ hn))
  exact ⟨(a, b), ⟨c0, c1, rfl, ha, hb1⟩, hb, hb2⟩
/-- Do the fields lie one behind the other? -/
def contig (P : Program) (total : Nat) : Nat → List Field → Bool
  | o, [] => o == total
  | o, f :: r => f.offset == o && contig P total (o + P.cellsOf f.type) r
theorem contig_le {total : Nat} : ∀ {fs : List Field} {o : Nat}, contig Tryd.prog total o fs = true → o ≤ total
  | [], o, h => by have : o = total := by simpa [contig] using h
                   omega
  | f :: r, o, h => by
    simp only [contig, Bool.and_eq_true] at h
    have := contig_le h.2
    omega
theorem trods_of {H : Type} {enc : TypeId × Value → H} {W : World} {n : Nat} {cs : List Value} : ∀ (fs : List Field) (xs : List (DataW H × List MemPlace)) (o : Nat), contig Tryd.prog cs.length o fs = true → xs.length = fs.length →
    (∀ (i : Nat) (f : Field), fs[i]? = some f → DataW.trod enc Tryd.prog W 0 (fun _ => true) true n f.type ((cs.drop f.offset).take (Tryd.prog.cellsOf f.type)) = xs[i]?) → Trods enc W n (fs.map (·.type)) (cs.drop o) xs
  | [], xs, o, hc, hl, _ => by
    have : o = cs.length := by simpa [contig] using hc
    exact ⟨List.drop_eq_nil_of_le (by omega), List.length_eq_zero_iff.1 hl⟩
  | f :: r, xs, o, hc, hl, h => by
    simp only [contig, Bool.and_eq_true, beq_iff_eq] at hc
    cases xs with
    | nil => simp at hl
    | cons x0 x1 =>
      have h0 := h 0 f rfl
      have hoff := hc.1
      have hle := contig_le hc.2
      refine ⟨(cs.drop o).take (Tryd.prog.cellsOf f.type), cs.drop (o + Tryd.prog.cellsOf f.type), x0, x1, ?_, rfl, by rw [hoff] at h0; exact h0, trods_of r x1 _ hc.2 (by simpa using hl) (fun i g hg => h (i + 1) g hg)⟩
      rw [← List.drop_drop, List.take_append_drop]
theorem Rd.struct {α β : Type} {d : Kd α} {t : TypeId} {fs : Array Field} {B : α → Prop} (f : β → α) (g : α → β) (hfg : ∀ a, f (g a) = a) (ht : Tryd.prog.underlying t = some (.struct fs)) (hc : contig Tryd.prog (Tryd.prog.cellsOf t) 0 fs.toList = true) (h : RdF d (fs.toList.map (·.type)) B) : Rd (Kd.iso d f) t (fun b => B (f b)) := by
  intro H enc W fuel cs x hx hw
  obtain ⟨xs, n, rfl, rfl, hl, hlen, hf⟩ := DataW.trod_struct ht hx
  have hT := trods_of (enc := enc) (W := W) (n := n) (cs := cs) fs.toList xs 0 (by rw [hl]; exact hc) (by simpa using hlen) (fun i q hq => hf i q (by simpa using hq))
  rw [List.drop_zero] at hT
  obtain ⟨a, ha, hB⟩ := h H enc W n cs xs hT (fun q hq => hw q (by simp only [DataW.weights, ht]; exact hq))
  exact ⟨g a, by show d.K W (f (g a)) cs; rw [hfg]; exact ha, by show B (f (g a)); rw [hfg]; exact hB⟩
set_option maxRecDepth 100000 in
/-- An argument that is a struct: its cells. -/
theorem agg_of {α : Type} {d : Kd α} {t : TypeId} {fs : Array Field} {B : α → Prop} {r : Reach} {b0 : Nat} {v : Value} {H : Type} {enc : TypeId × Value → H} {W : World} {dd : DataW H} {p : List MemPlace} (ht : Tryd.prog.underlying t = some (.struct fs)) (h : Rd d t B) (hv : Value.okWide Tryd.prog W r b0 t v) (hd : DataW.Trod enc Tryd.prog W 0 (fun _ => true) true t v dd p) (hw : ∀ n ∈ dd.weights Tryd.prog t, n ≤ reachBytes) :
    ∃ a cs, v = .agg cs.toArray ∧ d.K W a cs ∧ B a := by
  obtain ⟨cs, rfl, _⟩ := Go.WideShapes.okWide_struct ht hv
  obtain ⟨fuel, hf⟩ := hd
  obtain ⟨a, hK, hB⟩ := h H enc W fuel _ _ hf hw
  refine ⟨a, cs.toList, by simp, ?_, hB⟩
  exact hK
end Go.Proofs.YtdojmdbaiddkgaaDoor.Args
end
section
namespace Go.Proofs.YtdojmdbaiddkgaaDoor.Print
open Go.RowKit Go.Proofs.YtdojmdbaiddkgaaDoorW.PrintWords Go.Proofs.YtdojmdbaiddkgaaDoorW.PrintLast Go.Proofs.YtdojmdbaiddkgaaDoorW.PrintMore
set_option linter.unusedVariables false
set_option linter.unusedSimpArgs false
def errW : Option Int → Value
 | none => .nilIface
 | some c => .iface 0 (.int .i64 c)
theorem errW_none : errW none = .nilIface := rfl
theorem errW_some (c : Int) : errW (some c) = .iface 0 (.int .i64 c) := rfl
theorem info9 : (Tryd.prog.info? 9).map (fun i => (i.zero, i.size, i.bytes)) = some (some (.string ⟨#[]⟩), 1, 16) := by kernel_rfl
theorem info32 : (Tryd.prog.info? 32).map (fun i => (i.zero, i.size, i.bytes)) = some (some (.agg #[(.string ⟨#[]⟩), (.slice none 0 0), (.slice none 0 0)]), 3, 64) := by kernel_rfl
theorem info37 : (Tryd.prog.info? 37).map (fun i => (i.zero, i.size, i.bytes)) = some (some (.agg #[(.string ⟨#[]⟩), (.slice none 0 0), (.string ⟨#[]⟩)]), 3, 56) := by kernel_rfl
theorem info59 : (Tryd.prog.info? 59).map (fun i => (i.zero, i.size, i.bytes)) = some (some (.agg #[(.string ⟨#[]⟩), (.slice none 0 0)]), 2, 40) := by kernel_rfl
theorem info62 : (Tryd.prog.info? 62).map (fun i => (i.zero, i.size, i.bytes)) = some (some (.agg #[(.string ⟨#[]⟩), (.slice none 0 0)]), 2, 40) := by kernel_rfl
theorem info78 : (Tryd.prog.info? 78).map (fun i => (i.zero, i.size, i.bytes)) = some (some (.agg #[(.string ⟨#[]⟩), (.int .i64 0)]), 2, 24) := by kernel_rfl
structure S78 where
 f0 : ByteArray
 f1 : Int
def z78 : S78 := ⟨(⟨#[]⟩ : ByteArray), (0 : Int)⟩
def k78 : Kd S78 := Kd.iso (Kd.pair Kd.string (Kd.int .i64)) (fun x : S78 => (x.f0, x.f1))
theorem k78_open {w : World} {x : S78} {cs : List Value} (h : k78.K w x cs) : cs = [.string x.f0, .int .i64 x.f1] := by
 obtain ⟨_, _, rfl, rfl, rfl⟩ := h
 exact rfl
theorem k78_openM {w : World} {base : Nat} {ok : Nat → Prop} {x : S78} {cs : List Value} (h : k78.M w base ok x cs) : cs = [.string x.f0, .int .i64 x.f1] := by
 obtain ⟨_, _, rfl, rfl, rfl⟩ := h
 exact rfl
theorem k78_mkM (w : World) (base : Nat) (ok : Nat → Prop) (x : S78)  : k78.M w base ok x [.string x.f0, .int .i64 x.f1] := ⟨[.string x.f0], [.int .i64 x.f1], rfl, rfl, rfl⟩
def rd_T78 (xs : List S78) (i : Int) : S78 := xs.getD i.toNat z78
theorem at_T78 {w : World} {A : Option Addr} {n : Nat} {xs : List S78} (h : Kd.C k78 w A n xs) (i : Int) (h0 : 0 ≤ i) (h1 : i < n) : ∃ ad , A = some ad ∧ w.cell? (ad.add (i.toNat * 2)) = some (.string (rd_T78 xs i).f0) ∧ w.cell? ⟨(ad.add (i.toNat * 2)).block, (ad.add (i.toNat * 2)).off + 1, none⟩ = some (.int .i64 (rd_T78 xs i).f1) := by
 obtain ⟨ad, c, e, _, hK, hc0⟩ := Kd.C_get h z78 i h0 h1
 have hc : ∀ j u, c[j]? = some u → w.cell? (ad.add (i.toNat * 2 + j)) = some u := hc0
 obtain rfl := k78_open hK
 exact ⟨ad, e, hc 0 _ rfl, by rw [← add_field _ _ 1 (by omega)]; exact hc 1 _ rfl⟩
structure S59 where
 f0 : ByteArray
 f1 : (List ByteArray)
def z59 : S59 := ⟨(⟨#[]⟩ : ByteArray), ([] : List ByteArray)⟩
def k59 : Kd S59 := Kd.iso (Kd.pair Kd.string (Kd.slice 9 Kd.string)) (fun x : S59 => (x.f0, x.f1))
theorem k59_open {w : World} {x : S59} {cs : List Value} (h : k59.K w x cs) : ∃ A1 c1, cs = [.string x.f0, .slice A1 x.f1.length c1] ∧ x.f1.length ≤ c1 ∧ Kd.string.C w A1 x.f1.length x.f1 := by
 obtain ⟨_, _, rfl, rfl, ⟨A1, c1, rfl, l1, g1⟩⟩ := h
 exact ⟨A1, c1, rfl, l1, g1⟩
theorem k59_mkM (w : World) (base : Nat) (ok : Nat → Prop) (x : S59) {v1 : Value} (g1 : Kd.string.R 9 w base ok v1 x.f1) : k59.M w base ok x [.string x.f0, v1] := ⟨[.string x.f0], [v1], rfl, rfl, ⟨v1, rfl, g1⟩⟩
theorem k59_openF {W : World} {ok : Nat → Prop} {x : S59} {cs : List Value} (h : Kd.FK k59 W ok x cs) : ∃ A1 c1, cs = [.string x.f0, .slice A1 x.f1.length c1] ∧ x.f1.length ≤ c1 ∧ Kd.F Kd.string W ok A1 x.f1.length x.f1 := by
 obtain ⟨A1, c1, rfl, l1, _⟩ := k59_open (Kd.FK_now h)
 exact ⟨A1, c1, rfl, l1, (fun W' hW => by obtain ⟨A1_, c1_, he, l1_, g1_⟩ := k59_open (h W' hW); injection (Option.some.inj (show some (Value.slice A1 x.f1.length c1) = some (Value.slice A1_ x.f1.length c1_) from congrArg (fun l => l[1]?) he)) with ha_ _ _; rw [ha_]; exact g1_)⟩
def rd_T59 (xs : List S59) (i : Int) : S59 := xs.getD i.toNat z59
theorem at_T59 {w : World} {A : Option Addr} {n : Nat} {xs : List S59} (h : Kd.C k59 w A n xs) (i : Int) (h0 : 0 ≤ i) (h1 : i < n) : ∃ ad A1 c1, A = some ad ∧ w.cell? (ad.add (i.toNat * 2)) = some (.string (rd_T59 xs i).f0) ∧ w.cell? ⟨(ad.add (i.toNat * 2)).block, (ad.add (i.toNat * 2)).off + 1, none⟩ = some (.slice A1 (rd_T59 xs i).f1.length c1) ∧ (rd_T59 xs i).f1.length ≤ c1 ∧ Kd.string.C w A1 (rd_T59 xs i).f1.length (rd_T59 xs i).f1 := by
 obtain ⟨ad, c, e, _, hK, hc0⟩ := Kd.C_get h z59 i h0 h1
 have hc : ∀ j u, c[j]? = some u → w.cell? (ad.add (i.toNat * 2 + j)) = some u := hc0
 obtain ⟨A1, c1, rfl, l1, g1⟩ := k59_open hK
 exact ⟨ad, A1, c1, e, hc 0 _ rfl, by rw [← add_field _ _ 1 (by omega)]; exact hc 1 _ rfl, l1, g1⟩
structure S37 where
 f0 : ByteArray
 f1 : (List S59)
 f2 : ByteArray
def z37 : S37 := ⟨(⟨#[]⟩ : ByteArray), ([] : List S59), (⟨#[]⟩ : ByteArray)⟩
def k37 : Kd S37 := Kd.iso (Kd.pair Kd.string (Kd.pair (Kd.slice 59 k59) Kd.string)) (fun x : S37 => (x.f0, x.f1, x.f2))
theorem k37_open {w : World} {x : S37} {cs : List Value} (h : k37.K w x cs) : ∃ A1 c1, cs = [.string x.f0, .slice A1 x.f1.length c1, .string x.f2] ∧ x.f1.length ≤ c1 ∧ k59.C w A1 x.f1.length x.f1 := by
 obtain ⟨_, _, rfl, rfl, ⟨_, _, rfl, ⟨A1, c1, rfl, l1, g1⟩, rfl⟩⟩ := h
 exact ⟨A1, c1, rfl, l1, g1⟩
theorem k37_mkM (w : World) (base : Nat) (ok : Nat → Prop) (x : S37) {v1 : Value} (g1 : k59.R 59 w base ok v1 x.f1) : k37.M w base ok x [.string x.f0, v1, .string x.f2] := ⟨[.string x.f0], [v1, .string x.f2], rfl, rfl, ⟨[v1], [.string x.f2], rfl, ⟨v1, rfl, g1⟩, rfl⟩⟩
def rd_T37 (xs : List S37) (i : Int) : S37 := xs.getD i.toNat z37
theorem at_T37 {w : World} {A : Option Addr} {n : Nat} {xs : List S37} (h : Kd.C k37 w A n xs) (i : Int) (h0 : 0 ≤ i) (h1 : i < n) : ∃ ad A1 c1, A = some ad ∧ w.cell? (ad.add (i.toNat * 3)) = some (.string (rd_T37 xs i).f0) ∧ w.cell? ⟨(ad.add (i.toNat * 3)).block, (ad.add (i.toNat * 3)).off + 1, none⟩ = some (.slice A1 (rd_T37 xs i).f1.length c1) ∧ w.cell? ⟨(ad.add (i.toNat * 3)).block, (ad.add (i.toNat * 3)).off + 2, none⟩ = some (.string (rd_T37 xs i).f2) ∧ (rd_T37 xs i).f1.length ≤ c1 ∧ k59.C w A1 (rd_T37 xs i).f1.length (rd_T37 xs i).f1 := by
 obtain ⟨ad, c, e, _, hK, hc0⟩ := Kd.C_get h z37 i h0 h1
 have hc : ∀ j u, c[j]? = some u → w.cell? (ad.add (i.toNat * 3 + j)) = some u := hc0
 obtain ⟨A1, c1, rfl, l1, g1⟩ := k37_open hK
 exact ⟨ad, A1, c1, e, hc 0 _ rfl, by rw [← add_field _ _ 1 (by omega)]; exact hc 1 _ rfl, by rw [← add_field _ _ 2 (by omega)]; exact hc 2 _ rfl, l1, g1⟩
structure S32 where
 f0 : ByteArray
 f1 : (List S37)
 f2 : (List S32)
def z32 : S32 := ⟨(⟨#[]⟩ : ByteArray), ([] : List S37), ([] : List S32)⟩
def F32 (d : Kd S32) : Kd S32 := Kd.iso (Kd.pair Kd.string (Kd.pair (Kd.slice 37 k37) (Kd.slice 32 d))) (fun x : S32 => (x.f0, x.f1, x.f2))
theorem mono32 : Kd.Mono F32 := Kd.mono_iso _ (Kd.mono_pair (Kd.mono_const _) (Kd.mono_pair (Kd.mono_const _) (Kd.mono_slice 32 Kd.mono_id)))
theorem sub32 : Kd.Sub F32 [9, 32, 37, 59] := Kd.sub_iso _ (Kd.sub_pair (Kd.sub_const _ (by decide)) (Kd.sub_pair (Kd.sub_const _ (by decide)) (Kd.sub_slice 32 (by decide) Kd.sub_id)))
theorem sz32 : ∀ n, (Kd.upto F32 3 [9, 32, 37, 59] n).sz = 3 := Kd.upto_sz (fun _ => rfl)
def k32 : Kd S32 := Kd.fix F32 3 [9, 32, 37, 59] sz32 (Kd.upto_E sub32)
theorem k32_open {w : World} {x : S32} {cs : List Value} (h : k32.K w x cs) : ∃ A1 c1 A2 c2, cs = [.string x.f0, .slice A1 x.f1.length c1, .slice A2 x.f2.length c2] ∧ x.f1.length ≤ c1 ∧ k37.C w A1 x.f1.length x.f1 ∧ x.f2.length ≤ c2 ∧ k32.C w A2 x.f2.length x.f2 := by
 obtain ⟨n, h⟩ := h
 cases n with
 | zero => exact h.elim
 | succ n =>
  obtain ⟨_, _, rfl, rfl, ⟨_, _, rfl, ⟨A1, c1, rfl, l1, g1⟩, ⟨A2, c2, rfl, l2, g2⟩⟩⟩ := h
  exact ⟨A1, c1, A2, c2, rfl, l1, g1, l2, Kd.fix_C g2⟩
theorem k32_mkM (w : World) (base : Nat) (ok : Nat → Prop) (x : S32) {v1 : Value} (g1 : k37.R 37 w base ok v1 x.f1) {v2 : Value} (g2 : k32.R 32 w base ok v2 x.f2) : k32.M w base ok x [.string x.f0, v1, v2] := by
 obtain ⟨n2, q2⟩ := Kd.fix_R_back mono32 g2
 have r2 := Kd.upto_R_le mono32 sz32 (show n2 ≤ n2 by omega) q2
 exact ⟨n2 + 1, ⟨[.string x.f0], [v1, v2], rfl, rfl, ⟨[v1], [v2], rfl, ⟨v1, rfl, g1⟩, ⟨v2, rfl, r2⟩⟩⟩⟩
def rd_T32 (xs : List S32) (i : Int) : S32 := xs.getD i.toNat z32
theorem at_T32 {w : World} {A : Option Addr} {n : Nat} {xs : List S32} (h : Kd.C k32 w A n xs) (i : Int) (h0 : 0 ≤ i) (h1 : i < n) : ∃ ad A1 c1 A2 c2, A = some ad ∧ w.cell? (ad.add (i.toNat * 3)) = some (.string (rd_T32 xs i).f0) ∧ w.cell? ⟨(ad.add (i.toNat * 3)).block, (ad.add (i.toNat * 3)).off + 1, none⟩ = some (.slice A1 (rd_T32 xs i).f1.length c1) ∧ w.cell? ⟨(ad.add (i.toNat * 3)).block, (ad.add (i.toNat * 3)).off + 2, none⟩ = some (.slice A2 (rd_T32 xs i).f2.length c2) ∧ (rd_T32 xs i).f1.length ≤ c1 ∧ k37.C w A1 (rd_T32 xs i).f1.length (rd_T32 xs i).f1 ∧ (rd_T32 xs i).f2.length ≤ c2 ∧ k32.C w A2 (rd_T32 xs i).f2.length (rd_T32 xs i).f2 := by
 obtain ⟨ad, c, e, _, hK, hc0⟩ := Kd.C_get h z32 i h0 h1
 have hc : ∀ j u, c[j]? = some u → w.cell? (ad.add (i.toNat * 3 + j)) = some u := hc0
 obtain ⟨A1, c1, A2, c2, rfl, l1, g1, l2, g2⟩ := k32_open hK
 exact ⟨ad, A1, c1, A2, c2, e, hc 0 _ rfl, by rw [← add_field _ _ 1 (by omega)]; exact hc 1 _ rfl, by rw [← add_field _ _ 2 (by omega)]; exact hc 2 _ rfl, l1, g1, l2, g2⟩
structure S62 where
 f0 : ByteArray
 f1 : (List ByteArray)
def z62 : S62 := ⟨(⟨#[]⟩ : ByteArray), ([] : List ByteArray)⟩
def k62 : Kd S62 := Kd.iso (Kd.pair Kd.string (Kd.slice 9 Kd.string)) (fun x : S62 => (x.f0, x.f1))
theorem k62_open {w : World} {x : S62} {cs : List Value} (h : k62.K w x cs) : ∃ A1 c1, cs = [.string x.f0, .slice A1 x.f1.length c1] ∧ x.f1.length ≤ c1 ∧ Kd.string.C w A1 x.f1.length x.f1 := by
 obtain ⟨_, _, rfl, rfl, ⟨A1, c1, rfl, l1, g1⟩⟩ := h
 exact ⟨A1, c1, rfl, l1, g1⟩
theorem k62_mk (w : World) (x : S62) {A1 : Option Addr} {c1 : Nat} (l1 : x.f1.length ≤ c1) (g1 : Kd.string.C w A1 x.f1.length x.f1) : k62.K w x [.string x.f0, .slice A1 x.f1.length c1] := ⟨[.string x.f0], [.slice A1 x.f1.length c1], rfl, rfl, ⟨A1, c1, rfl, l1, g1⟩⟩
theorem k62_mkF (W : World) (ok : Nat → Prop) (x : S62) {A1 : Option Addr} {c1 : Nat} (l1 : x.f1.length ≤ c1) (g1 : Kd.F Kd.string W ok A1 x.f1.length x.f1) : Kd.FK k62 W ok x [.string x.f0, .slice A1 x.f1.length c1] := fun W2 hW => k62_mk W2 x l1 (g1 W2 hW)
def rd_T62 (xs : List S62) (i : Int) : S62 := xs.getD i.toNat z62
theorem at_T62 {w : World} {A : Option Addr} {n : Nat} {xs : List S62} (h : Kd.C k62 w A n xs) (i : Int) (h0 : 0 ≤ i) (h1 : i < n) : ∃ ad A1 c1, A = some ad ∧ w.cell? (ad.add (i.toNat * 2)) = some (.string (rd_T62 xs i).f0) ∧ w.cell? ⟨(ad.add (i.toNat * 2)).block, (ad.add (i.toNat * 2)).off + 1, none⟩ = some (.slice A1 (rd_T62 xs i).f1.length c1) ∧ (rd_T62 xs i).f1.length ≤ c1 ∧ Kd.string.C w A1 (rd_T62 xs i).f1.length (rd_T62 xs i).f1 := by
 obtain ⟨ad, c, e, _, hK, hc0⟩ := Kd.C_get h z62 i h0 h1
 have hc : ∀ j u, c[j]? = some u → w.cell? (ad.add (i.toNat * 2 + j)) = some u := hc0
 obtain ⟨A1, c1, rfl, l1, g1⟩ := k62_open hK
 exact ⟨ad, A1, c1, e, hc 0 _ rfl, by rw [← add_field _ _ 1 (by omega)]; exact hc 1 _ rfl, l1, g1⟩
structure S42 where
 f0 : ByteArray
 f1 : (List S62)
 f2 : ByteArray
def z42 : S42 := ⟨(⟨#[]⟩ : ByteArray), ([] : List S62), (⟨#[]⟩ : ByteArray)⟩
def k42 : Kd S42 := Kd.iso (Kd.pair Kd.string (Kd.pair (Kd.slice 62 k62) Kd.string)) (fun x : S42 => (x.f0, x.f1, x.f2))
theorem k42_open {w : World} {x : S42} {cs : List Value} (h : k42.K w x cs) : ∃ A1 c1, cs = [.string x.f0, .slice A1 x.f1.length c1, .string x.f2] ∧ x.f1.length ≤ c1 ∧ k62.C w A1 x.f1.length x.f1 := by
 obtain ⟨_, _, rfl, rfl, ⟨_, _, rfl, ⟨A1, c1, rfl, l1, g1⟩, rfl⟩⟩ := h
 exact ⟨A1, c1, rfl, l1, g1⟩
def rd_T42 (xs : List S42) (i : Int) : S42 := xs.getD i.toNat z42
theorem at_T42 {w : World} {A : Option Addr} {n : Nat} {xs : List S42} (h : Kd.C k42 w A n xs) (i : Int) (h0 : 0 ≤ i) (h1 : i < n) : ∃ ad A1 c1, A = some ad ∧ w.cell? (ad.add (i.toNat * 3)) = some (.string (rd_T42 xs i).f0) ∧ w.cell? ⟨(ad.add (i.toNat * 3)).block, (ad.add (i.toNat * 3)).off + 1, none⟩ = some (.slice A1 (rd_T42 xs i).f1.length c1) ∧ w.cell? ⟨(ad.add (i.toNat * 3)).block, (ad.add (i.toNat * 3)).off + 2, none⟩ = some (.string (rd_T42 xs i).f2) ∧ (rd_T42 xs i).f1.length ≤ c1 ∧ k62.C w A1 (rd_T42 xs i).f1.length (rd_T42 xs i).f1 := by
 obtain ⟨ad, c, e, _, hK, hc0⟩ := Kd.C_get h z42 i h0 h1
 have hc : ∀ j u, c[j]? = some u → w.cell? (ad.add (i.toNat * 3 + j)) = some u := hc0
 obtain ⟨A1, c1, rfl, l1, g1⟩ := k42_open hK
 exact ⟨ad, A1, c1, e, hc 0 _ rfl, by rw [← add_field _ _ 1 (by omega)]; exact hc 1 _ rfl, by rw [← add_field _ _ 2 (by omega)]; exact hc 2 _ rfl, l1, g1⟩
structure S25 where
 f0 : ByteArray
 f1 : (List S42)
 f2 : (List S25)
def z25 : S25 := ⟨(⟨#[]⟩ : ByteArray), ([] : List S42), ([] : List S25)⟩
def F25 (d : Kd S25) : Kd S25 := Kd.iso (Kd.pair Kd.string (Kd.pair (Kd.slice 42 k42) (Kd.slice 25 d))) (fun x : S25 => (x.f0, x.f1, x.f2))
theorem mono25 : Kd.Mono F25 := Kd.mono_iso _ (Kd.mono_pair (Kd.mono_const _) (Kd.mono_pair (Kd.mono_const _) (Kd.mono_slice 25 Kd.mono_id)))
theorem sub25 : Kd.Sub F25 [9, 25, 42, 62] := Kd.sub_iso _ (Kd.sub_pair (Kd.sub_const _ (by decide)) (Kd.sub_pair (Kd.sub_const _ (by decide)) (Kd.sub_slice 25 (by decide) Kd.sub_id)))
theorem sz25 : ∀ n, (Kd.upto F25 3 [9, 25, 42, 62] n).sz = 3 := Kd.upto_sz (fun _ => rfl)
def k25 : Kd S25 := Kd.fix F25 3 [9, 25, 42, 62] sz25 (Kd.upto_E sub25)
theorem k25_open {w : World} {x : S25} {cs : List Value} (h : k25.K w x cs) : ∃ A1 c1 A2 c2, cs = [.string x.f0, .slice A1 x.f1.length c1, .slice A2 x.f2.length c2] ∧ x.f1.length ≤ c1 ∧ k42.C w A1 x.f1.length x.f1 ∧ x.f2.length ≤ c2 ∧ k25.C w A2 x.f2.length x.f2 := by
 obtain ⟨n, h⟩ := h
 cases n with
 | zero => exact h.elim
 | succ n =>
  obtain ⟨_, _, rfl, rfl, ⟨_, _, rfl, ⟨A1, c1, rfl, l1, g1⟩, ⟨A2, c2, rfl, l2, g2⟩⟩⟩ := h
  exact ⟨A1, c1, A2, c2, rfl, l1, g1, l2, Kd.fix_C g2⟩
theorem k25_mk (w : World) (x : S25) {A1 : Option Addr} {c1 : Nat} (l1 : x.f1.length ≤ c1) (g1 : k42.C w A1 x.f1.length x.f1) {A2 : Option Addr} {c2 : Nat} (l2 : x.f2.length ≤ c2) (g2 : k25.C w A2 x.f2.length x.f2) : k25.K w x [.string x.f0, .slice A1 x.f1.length c1, .slice A2 x.f2.length c2] := by
 obtain ⟨n2, q2⟩ := Kd.fix_C_back mono25 g2
 have r2 := Kd.upto_C_le mono25 sz25 (show n2 ≤ n2 by omega) q2
 exact ⟨n2 + 1, ⟨[.string x.f0], [.slice A1 x.f1.length c1, .slice A2 x.f2.length c2], rfl, rfl, ⟨[.slice A1 x.f1.length c1], [.slice A2 x.f2.length c2], rfl, ⟨A1, c1, rfl, l1, g1⟩, ⟨A2, c2, rfl, l2, r2⟩⟩⟩⟩
def rd_T25 (xs : List S25) (i : Int) : S25 := xs.getD i.toNat z25
theorem at_T25 {w : World} {A : Option Addr} {n : Nat} {xs : List S25} (h : Kd.C k25 w A n xs) (i : Int) (h0 : 0 ≤ i) (h1 : i < n) : ∃ ad A1 c1 A2 c2, A = some ad ∧ w.cell? (ad.add (i.toNat * 3)) = some (.string (rd_T25 xs i).f0) ∧ w.cell? ⟨(ad.add (i.toNat * 3)).block, (ad.add (i.toNat * 3)).off + 1, none⟩ = some (.slice A1 (rd_T25 xs i).f1.length c1) ∧ w.cell? ⟨(ad.add (i.toNat * 3)).block, (ad.add (i.toNat * 3)).off + 2, none⟩ = some (.slice A2 (rd_T25 xs i).f2.length c2) ∧ (rd_T25 xs i).f1.length ≤ c1 ∧ k42.C w A1 (rd_T25 xs i).f1.length (rd_T25 xs i).f1 ∧ (rd_T25 xs i).f2.length ≤ c2 ∧ k25.C w A2 (rd_T25 xs i).f2.length (rd_T25 xs i).f2 := by
 obtain ⟨ad, c, e, _, hK, hc0⟩ := Kd.C_get h z25 i h0 h1
 have hc : ∀ j u, c[j]? = some u → w.cell? (ad.add (i.toNat * 3 + j)) = some u := hc0
 obtain ⟨A1, c1, A2, c2, rfl, l1, g1, l2, g2⟩ := k25_open hK
 exact ⟨ad, A1, c1, A2, c2, e, hc 0 _ rfl, by rw [← add_field _ _ 1 (by omega)]; exact hc 1 _ rfl, by rw [← add_field _ _ 2 (by omega)]; exact hc 2 _ rfl, l1, g1, l2, g2⟩
end Go.Proofs.YtdojmdbaiddkgaaDoor.Print
end
section
set_option linter.unusedVariables false
set_option linter.unusedSimpArgs false
namespace Go.Proofs.YtdojmdbaiddkgaaDoor.Args
open Go Go.RowKit Go.Lib Go.Proofs.YtdojmdbaiddkgaaDoorW.PrintWords Go.Proofs.YtdojmdbaiddkgaaDoor.Print
abbrev RParam := S62
def StrsB (l : List ByteArray) : Prop := l.length * 16 ≤ 140737488351232 ∧ ∀ z ∈ l, z.size ≤ 140737488351232
theorem rdStrs : Rd (Kd.slice 9 Kd.string) 57 StrsB := Rd.slice Tryd.underlying57 (by kernel_rfl) (by decide) 16 (by kernel_rfl) (Rd.string Tryd.underlying9)
def ParB (p : RParam) : Prop := p.f0.size ≤ 140737488351232 ∧ StrsB p.f1
theorem rdPar : Rd k62 62 ParB :=
  Rd.struct (fun x : RParam => (x.f0, x.f1)) (fun a => ⟨a.1, a.2⟩) (fun _ => rfl) Tryd.underlying62 (by kernel_rfl) (RdF.cons (Rd.string Tryd.underlying9) (RdF.one rdStrs))
def ParsB (l : List RParam) : Prop := l.length * 40 ≤ 140737488351232 ∧ ∀ p ∈ l, ParB p
abbrev RLine := ByteArray × List RParam × ByteArray
def LineB (z : RLine) : Prop := z.1.size ≤ 140737488351232 ∧ ParsB z.2.1 ∧ z.2.2.size ≤ 140737488351232
end Go.Proofs.YtdojmdbaiddkgaaDoor.Args
end
section
namespace Go.Proofs.YtdojmdbaiddkgaaDoor.Print
open Go.RowKit Go.Proofs.YtdojmdbaiddkgaaDoorW.PrintWords Go.Proofs.YtdojmdbaiddkgaaDoorW.PrintLast Go.Proofs.YtdojmdbaiddkgaaDoorW.PrintMore
set_option linter.unusedVariables false
theorem zB {n : Nat} {w w' : World} (h : Below n w w' := by repeat (first | (with_reducible first | exact HB.out | apply below_alloc | apply pw_below_drewN | apply below_drew1 | refine below_set ?_ (Aside0.out (by assumption))) | exact HB.out)) : Below n w w' := h
theorem zD {w w' : World} (h : Drawn0 w w' := by repeat (first | exact Drawn0.refl _ | apply Drawn0.step)) : Drawn0 w w' := h
theorem zE {p : Prop} (h : p := by first | rfl | (simp [errW_none, errW_some] <;> rfl) | (simp [*, errW_none, errW_some] <;> rfl)) : p := h
theorem zS {p : Prop} (h : p := by first | rfl | (simp; done) | (simp [bne_nil_isEmpty, beq_nil_isEmpty]; done) | (simp [*]; done)) : p := h
theorem zA {p : Prop} (h : p := by (try simp only [List.map_toArray, List.map_cons, List.map_nil]); first | done | rfl | (simp only [List.length_drop, List.length_take]; rfl)) : p := h
theorem zX {w w' : World} (h : Below w.heap.size w w' := by (with_reducible repeat (first | apply below_alloc | apply pw_below_drewN | apply below_drew1)); exact Below.refl _ _) : Below w.heap.size w w' := h
theorem zG {w : World} (h : GG w := by first | (with_reducible exact hG) | exact GG.below hG (by repeat (first | (with_reducible first | exact HB.out | apply below_alloc | apply pw_below_drewN | apply below_drew1 | refine below_set ?_ (Aside0.out (by assumption))) | exact HB.out))) : GG w := h
theorem zG2 {w : World} (h : GG w := by repeat (first | (with_reducible exact hG) | apply GG.drewN | apply GG.drew)) : GG w := h
theorem zP (p : Prop) [Decidable p] (h : decide p = true := by first | (with_reducible assumption) | assumption) : p = True := eq_true (of_decide_eq_true h)
theorem zQ (p : Prop) [Decidable p] (h : decide p = true := by first | (with_reducible assumption) | assumption) : p := of_decide_eq_true h
section
variable {α : Type} {c : Prop} {x y r : α}
theorem zI [Decidable c] (H : (if c then x else y) = r) : c ∧ x = r ∨ ¬ c ∧ y = r := by
  by_cases h : c
  · exact .inl ⟨h, by rwa [if_pos h] at H⟩
  · exact .inr ⟨h, by rwa [if_neg h] at H⟩
theorem zId [Decidable c] (H : (if c then x else y) = r) : c ∧ decide c = true ∧ x = r ∨ ¬ c ∧ decide c = false ∧ y = r := by
  rcases zI H with ⟨h, k⟩ | ⟨h, k⟩
  · exact .inl ⟨h, decide_eq_true h, k⟩
  · exact .inr ⟨h, decide_eq_false h, k⟩
theorem zIe {β : Type} [BEq β] [LawfulBEq β] {a b : β} [Decidable (a = b)] (H : (if a = b then x else y) = r) :
    a = b ∧ (a == b) = true ∧ (a != b) = false ∧ x = r ∨ ¬ a = b ∧ (a == b) = false ∧ (a != b) = true ∧ y = r := by
  rcases zI H with ⟨h, k⟩ | ⟨h, k⟩
  · exact .inl ⟨h, beq_iff_eq.mpr h, bne_eq_false_iff_eq.mpr h, k⟩
  · exact .inr ⟨h, beq_eq_false_iff_ne.mpr h, bne_iff_ne.mpr h, k⟩
theorem zIb {b : Bool} (H : (if b = true then x else y) = r) : b = true ∧ x = r ∨ b = false ∧ y = r := by
  cases b
  · exact .inr ⟨rfl, by rwa [if_neg (by decide)] at H⟩
  · exact .inl ⟨rfl, by rwa [if_pos rfl] at H⟩
theorem zH {p : Prop} (H : x = y) (h : ¬ (x = y) := by simp) : p := absurd H h
end
section
variable {α : Type} {c : Prop} {x : Option α} {r : α}
theorem zJ [Decidable c] (H : (if c then x else none) = some r) : c ∧ x = some r := by
  rcases zI H with h | ⟨_, h⟩
  · exact h
  · cases h
theorem zJd [Decidable c] (H : (if c then x else none) = some r) : c ∧ decide c = true ∧ x = some r := ⟨(zJ H).1, decide_eq_true (zJ H).1, (zJ H).2⟩
end
section
variable {w w1 W : World} {g g' : Nat} {t : TypeId} {a b c d e : Value} {l : List Value} {o : Obj} {n : Nat}
theorem zc0 (h : Aside0 (w.heap[g]? = some (.cells (a :: l).toArray t (0, 0)))) : w.cell? ⟨g, 0, none⟩ = some a := (blk_cell h.out 0).trans rfl
theorem zc1 (h : Aside0 (w.heap[g]? = some (.cells (a :: b :: l).toArray t (0, 0)))) : w.cell? ⟨g, 1, none⟩ = some b := (blk_cell h.out 1).trans rfl
theorem zc2 (h : Aside0 (w.heap[g]? = some (.cells (a :: b :: c :: l).toArray t (0, 0)))) : w.cell? ⟨g, 2, none⟩ = some c := (blk_cell h.out 2).trans rfl
theorem zf {cs : Array Value} (h : Aside0 (w.heap[g]? = some (.cells cs t (0, 0)))) (i : Nat) : w.frozen? ⟨g, i, none⟩ = false := blk_frozen h.out i
theorem zx {p : Addr} {v : Value} (HB : Aside0 (Below w.heap.size w w1)) (h : w.cell? p = some v) : w1.cell? p = some v := (HB.out.cell (World.block_lt_of_cell? w _ h)).trans h
theorem zg (w : World) (hg : g = W.heap.size) (h : Below w.heap.size w W := by repeat (first | (with_reducible first | exact HB.out | apply below_alloc | apply pw_below_drewN | apply below_drew1 | refine below_set ?_ (Aside0.out (by assumption))) | exact HB.out)) : Aside0 (w.heap.size ≤ g) := ⟨hg ▸ h.size⟩
theorem zn (h : Aside0 (w.heap[g']? = some o)) (hg : g = W.heap.size) (hx : Below w.heap.size w W := by (with_reducible repeat (first | apply below_alloc | apply pw_below_drewN | apply below_drew1)); exact Below.refl _ _) : Aside0 (g' ≠ g) := ⟨by rw [hg]; exact Nat.ne_of_lt (blk_lt (blk_below h.out hx))⟩
theorem zm (h : Aside0 (w.heap[g']? = some o)) (hg : g = W.heap.size) (hx : Below w.heap.size w W := by (with_reducible repeat (first | apply below_alloc | apply pw_below_drewN | apply below_drew1)); exact Below.refl _ _) : Aside0 (g ≠ g') := ⟨by rw [hg]; exact Nat.ne_of_gt (blk_lt (blk_below h.out hx))⟩
/-- A block's row behind a call. -/
theorem zb {W W' : World} (h : Aside0 (w.heap[g]? = some o)) (hb : Below W.heap.size W W') (hx : Below w.heap.size w W := by (with_reducible repeat (first | apply below_alloc | apply pw_below_drewN | apply below_drew1)); exact Below.refl _ _) : Aside0 (W'.heap[g]? = some o) := ⟨blk_below (blk_below h.out hx) hb⟩
theorem zw {W W' : World} (hb : Below W.heap.size W W') (h : Below w.heap.size w W := by repeat (first | (with_reducible first | exact HB.out | apply below_alloc | apply pw_below_drewN | apply below_drew1 | refine below_set ?_ (Aside0.out (by assumption))) | exact HB.out)) : Aside0 (Below w.heap.size w W') := ⟨below_step h hb⟩
end
section
variable {P : Program} {ops : Array Oper} {rest : List Oper} {o : Oper} {a : Act} {Q : Exit → Act → World → Prop} {W : World}
theorem zbox {N : Tmp} (cs : Array Value) (t : TypeId)
    (h : ∀ g, g = W.heap.size → ∀ w1, w1.heap[g]? = some (.cells cs t (0, 0)) → Below W.heap.size W w1 → wpList P ops Q rest (a.put o.dst (.pointer (some ⟨g, 0, none⟩))) w1)
    (hgd : o.guard = none := by rfl) (hd : o.dst = some N := by rfl)
    (hrun : (execOp a.eval o).run P W = .ok (.value (.pointer (some ⟨W.heap.size, 0, none⟩))) (W.alloc (.cells cs t (0, 0))) := by first | (go_simp; done) | (go_simp; rfl)) : wpList P ops Q (o :: rest) a W := box_event hgd hd hrun h
end
end Go.Proofs.YtdojmdbaiddkgaaDoor.Print
end
section
namespace Go.Proofs.YtdojmdbaiddkgaaDoor.Print
open Go.RowKit Go.Proofs.YtdojmdbaiddkgaaDoorW.PrintWords Go.Proofs.YtdojmdbaiddkgaaDoorW.PrintLast Go.Proofs.YtdojmdbaiddkgaaDoorW.PrintMore
set_option linter.unusedVariables false
set_option linter.unusedSimpArgs false
def trystlaw08_Same.l0 : Nat → List ByteArray → List ByteArray → Int → Int → Option (Bool)
 | 0, _, _, _, _ => none
 | k + 1, x0, x1, x12, x13 => if x13 < x12 then (if 0 ≤ x13 then (if x13 < (x0.length : Int) then (if x13 < (x1.length : Int) then (if (rdOf ByteArray.empty x0 x13).toList = (rdOf ByteArray.empty x1 x13).toList then (trystlaw08_Same.l0 k x0 x1 x12 (wrap64 (x13 + 1))) else (some false)) else (none)) else (none)) else (none)) else (some true)
def trystlaw08_Same.f (k : Nat) (l0 : List ByteArray) (l1 : List ByteArray) : Option (Bool) := if (l0.length : Int) = (l1.length : Int) then (trystlaw08_Same.l0 k l0 l1 (l0.length : Int) 0) else (some false)
set_option maxHeartbeats 8000000 in
set_option maxRecDepth 100000 in
theorem trystlaw08_Same.calls (k : Nat) (A0 : Option Addr) (c0 : Nat) (l0 : List ByteArray) (A1 : Option Addr) (c1 : Nat) (l1 : List ByteArray) (r : Bool) (w : World) (hG : GG w) (hr0 : Kd.C Kd.string w A0 l0.length l0) (hc0 : l0.length ≤ c0) (hr1 : Kd.C Kd.string w A1 l1.length l1) (hc1 : l1.length ≤ c1) (h : trystlaw08_Same.f k l0 l1 = some r) :
  Calls Tryd.prog 23 #[.slice A0 l0.length c0, .slice A1 l1.length c1] w fun e w' => e = .returned (.bool r) ∧ Drawn0 w w' := by
 have HR0 := Aside0.mk hr0; have HC0 := Aside0.mk hc0; clear hr0 hc0; have HR1 := Aside0.mk hr1; have HC1 := Aside0.mk hc1; clear hr1 hc1; have H : (if (l0.length : Int) = (l1.length : Int) then (trystlaw08_Same.l0 k l0 l1 (l0.length : Int) 0) else (some false)) = some r := h; clear h; replace H := zIe H; rcases H with ⟨c3, c3b0, c3b1, H⟩ | ⟨c3, c3b0, c3b1, H⟩
 ·have c3b2 : (l0.length == l1.length) = true := by first | simpa using c3 | (simp at c3 ⊢; omega)
  clear c3; have H' := Aside0.mk H; clear H
  go_enter Tryd.func23, Tryd.ntmps23
  go_wp2
  repeat (go_quiet (fail); try go_wp2)
  go_loopg [13] k (fun kq v13 w' => ∃ (x13_1 : Int), v13 = .int .i64 x13_1 ∧ Aside0 (trystlaw08_Same.l0 kq l0 l1 (l0.length : Int) x13_1 = some r) ∧ Aside0 (kq ≤ k) ∧ Drawn0 w w')
  case atStart => exact ⟨(0), zS, H', ⟨Nat.le_refl _⟩, zD⟩
  case round =>
   clear H'; clear c3b0 c3b1 c3b2; obtain ⟨x13_1, rfl, HA, HK1, ⟨m1, rfl⟩⟩ := hrel
   cases gk with
   | zero => exact absurd HA.out (by simp [trystlaw08_Same.l0])
   | succ k1 =>
    have H := HA.out; clear HA; simp only [trystlaw08_Same.l0] at H; replace H := zId H; rcases H with ⟨-, c4b0, H⟩ | ⟨-, c4b0, H⟩
    ·replace H := zJd H; obtain ⟨-, c5b0, H⟩ := H; replace H := zJd H; obtain ⟨-, c6b0, H⟩ := H; replace H := zJd H; obtain ⟨-, c7b0, H⟩ := H; replace H := zIe H; rcases H with ⟨-, c8b0, c8b1, H⟩ | ⟨c8, c8b0, c8b1, H⟩
     ·have H' := Aside0.mk H; clear H; have p194 := zQ (0 ≤ (x13_1 : Int)); have q194 := zQ (x13_1 < (l0.length : Int)); obtain ⟨ad194, e194, hx194_0⟩ := Kd.at_string HR0.out x13_1 p194 q194
      cases e194
      replace p194 := eq_true p194; replace q194 := eq_true q194; have p195 := zQ (0 ≤ (x13_1 : Int)); have q195 := zQ (x13_1 < (l1.length : Int)); obtain ⟨ad195, e195, hx195_0⟩ := Kd.at_string HR1.out x13_1 p195 q195
      cases e195
      replace p195 := eq_true p195; replace q195 := eq_true q195; go_wp2
      repeat (go_quiet (fail); try go_wp2)
      go_roundg k1
      case measure => have := HK1.out; omega
      case rel => exact ⟨(wrap64 (x13_1 + 1)), zS, H', ⟨by have := HK1.out; omega⟩, zD⟩
     ·obtain rfl := Option.some.inj H; have p194 := zQ (0 ≤ (x13_1 : Int)); have q194 := zQ (x13_1 < (l0.length : Int)); obtain ⟨ad194, e194, hx194_0⟩ := Kd.at_string HR0.out x13_1 p194 q194
      cases e194
      replace p194 := eq_true p194; replace q194 := eq_true q194; have p195 := zQ (0 ≤ (x13_1 : Int)); have q195 := zQ (x13_1 < (l1.length : Int)); obtain ⟨ad195, e195, hx195_0⟩ := Kd.at_string HR1.out x13_1 p195 q195
      cases e195
      replace p195 := eq_true p195; replace q195 := eq_true q195; go_wp2
      repeat (go_quiet (fail); try go_wp2)
      go_ret; exact ⟨zS, zD⟩
    ·obtain rfl := Option.some.inj H; go_wp2
     repeat (go_quiet (fail); try go_wp2)
     go_ret; exact ⟨zS, zD⟩
 ·have c3b2 : (l0.length == l1.length) = false := by first | simpa using c3 | (simp at c3 ⊢; omega)
  obtain rfl := Option.some.inj H
  go_enter Tryd.func23, Tryd.ntmps23
  go_wp2
  repeat (go_quiet (fail); try go_wp2)
  go_ret; exact ⟨zS, zD⟩
mutual
def trystlaw10_Same.j0 : Nat → Bool → ByteArray → List (S62) → ByteArray → ByteArray → List (S62) → ByteArray → Option (Bool)
 | 0, _, _, _, _, _, _, _ => none
 | k + 1, x26, x197000, x197001, x197002, x198000, x198001, x198002 => if x26 = true then (some false) else (trystlaw10_Same.l0 k (x197001.length : Int) 0 x197000 x197001 x197002 x198000 x198001 x198002)
def trystlaw10_Same.l0 : Nat → Int → Int → ByteArray → List (S62) → ByteArray → ByteArray → List (S62) → ByteArray → Option (Bool)
 | 0, _, _, _, _, _, _, _, _ => none
 | k + 1, x29, x30, x197000, x197001, x197002, x198000, x198001, x198002 => if x30 < x29 then (if 0 ≤ x30 then (if x30 < (x197001.length : Int) then (if x30 < (x198001.length : Int) then (if ((rd_T62 x197001 x30).f0).toList = ((rd_T62 x198001 x30).f0).toList then ((trystlaw08_Same.f k ((rd_T62 x197001 x30).f1) ((rd_T62 x198001 x30).f1)).bind fun t202 => (if t202 = true then (trystlaw10_Same.l0 k x29 (wrap64 (x30 + 1)) x197000 x197001 x197002 x198000 x198001 x198002) else (some false))) else (some false)) else (none)) else (none)) else (none)) else (some true)
end
def trystlaw10_Same.f (k : Nat) (a0_0 : ByteArray) (l0_1 : List (S62)) (a0_2 : ByteArray) (a1_0 : ByteArray) (l1_1 : List (S62)) (a1_2 : ByteArray) : Option (Bool) := if a0_0.toList = a1_0.toList then (if a0_2.toList = a1_2.toList then (trystlaw10_Same.j0 k ((l0_1.length : Int) != (l1_1.length : Int)) a0_0 l0_1 a0_2 a1_0 l1_1 a1_2) else (trystlaw10_Same.j0 k true a0_0 l0_1 a0_2 a1_0 l1_1 a1_2)) else (trystlaw10_Same.j0 k true a0_0 l0_1 a0_2 a1_0 l1_1 a1_2)
set_option maxHeartbeats 8000000 in
set_option maxRecDepth 100000 in
theorem trystlaw10_Same.calls (k : Nat) (a0_0 : ByteArray) (A0_1 : Option Addr) (c0_1 : Nat) (l0_1 : List (S62)) (a0_2 : ByteArray) (a1_0 : ByteArray) (A1_1 : Option Addr) (c1_1 : Nat) (l1_1 : List (S62)) (a1_2 : ByteArray) (r : Bool) (w : World) (hG : GG w) (hr0_1 : Kd.C k62 w A0_1 l0_1.length l0_1) (hc0_1 : l0_1.length ≤ c0_1) (hr1_1 : Kd.C k62 w A1_1 l1_1.length l1_1) (hc1_1 : l1_1.length ≤ c1_1) (h : trystlaw10_Same.f k a0_0 l0_1 a0_2 a1_0 l1_1 a1_2 = some r) :
  Calls Tryd.prog 11 #[.agg #[.string a0_0, .slice A0_1 l0_1.length c0_1, .string a0_2], .agg #[.string a1_0, .slice A1_1 l1_1.length c1_1, .string a1_2]] w fun e w' => e = .returned (.bool r) ∧ Below w.heap.size w w' := by
 have hu42 := Tryd.underlying42; have HR0_1 := Aside0.mk hr0_1; have HC0_1 := Aside0.mk hc0_1; clear hr0_1 hc0_1; have HR1_1 := Aside0.mk hr1_1; have HC1_1 := Aside0.mk hc1_1; clear hr1_1 hc1_1; have HB := Aside0.mk (Below.refl w.heap.size w); have H : (if a0_0.toList = a1_0.toList then (if a0_2.toList = a1_2.toList then (trystlaw10_Same.j0 k ((l0_1.length : Int) != (l1_1.length : Int)) a0_0 l0_1 a0_2 a1_0 l1_1 a1_2) else (trystlaw10_Same.j0 k true a0_0 l0_1 a0_2 a1_0 l1_1 a1_2)) else (trystlaw10_Same.j0 k true a0_0 l0_1 a0_2 a1_0 l1_1 a1_2)) = some r := h; clear h; have HC3 := Aside0.mk H; clear H
 go_enter Tryd.func11, Tryd.ntmps11
 go_upto_region 1 with (first | ((with_reducible refine gate_dst (N := 2) rfl ?_); (try (refine gate_guard (by rfl) ?_; dsimp only)); refine zbox (N := 2) #[.string a0_0, .slice A0_1 l0_1.length c0_1, .string a0_2] 42 (fun gb196 hg w4 hbox hb => ?_); have n0_ := zw hb; have n1_ := Aside0.mk hbox; have n2_ := zg w hg; have n3_ := zg w hg; clear HB; have HB := n0_; have BK196 := n1_; have GW196 := n2_; have GE196 := n3_; clear n0_ n1_ n2_ n3_; clear hb hbox hg) | ((with_reducible refine gate_dst (N := 3) rfl ?_); (try (refine gate_guard (by rfl) ?_; dsimp only)); refine zbox (N := 3) #[.string a1_0, .slice A1_1 l1_1.length c1_1, .string a1_2] 42 (fun gb197 hg w5 hbox hb => ?_); replace BK197 := Aside0.mk hbox; replace GW197 := zg w hg; replace GE197 := zg w hg; replace HB := zw hb; replace NB196_197 := zn BK196 hg; replace NB197_196 := zm BK196 hg; replace BK196 := zb BK196 hb; clear hb hbox hg))
 repeat (go_quiet (first | ((with_reducible refine gate_dst (N := 2) rfl ?_); (try (refine gate_guard (by rfl) ?_; dsimp only)); refine zbox (N := 2) #[.string a0_0, .slice A0_1 l0_1.length c0_1, .string a0_2] 42 (fun gb196 hg w4 hbox hb => ?_); have n0_ := zw hb; have n1_ := Aside0.mk hbox; have n2_ := zg w hg; have n3_ := zg w hg; clear HB; have HB := n0_; have BK196 := n1_; have GW196 := n2_; have GE196 := n3_; clear n0_ n1_ n2_ n3_; clear hb hbox hg) | ((with_reducible refine gate_dst (N := 3) rfl ?_); (try (refine gate_guard (by rfl) ?_; dsimp only)); refine zbox (N := 3) #[.string a1_0, .slice A1_1 l1_1.length c1_1, .string a1_2] 42 (fun gb197 hg w5 hbox hb => ?_); replace BK197 := Aside0.mk hbox; replace GW197 := zg w hg; replace GE197 := zg w hg; replace HB := zw hb; replace NB196_197 := zn BK196 hg; replace NB197_196 := zm BK196 hg; replace BK196 := zb BK196 hb; clear hb hbox hg)); go_upto_region 1 with (first | ((with_reducible refine gate_dst (N := 2) rfl ?_); (try (refine gate_guard (by rfl) ?_; dsimp only)); refine zbox (N := 2) #[.string a0_0, .slice A0_1 l0_1.length c0_1, .string a0_2] 42 (fun gb196 hg w4 hbox hb => ?_); have n0_ := zw hb; have n1_ := Aside0.mk hbox; have n2_ := zg w hg; have n3_ := zg w hg; clear HB; have HB := n0_; have BK196 := n1_; have GW196 := n2_; have GE196 := n3_; clear n0_ n1_ n2_ n3_; clear hb hbox hg) | ((with_reducible refine gate_dst (N := 3) rfl ?_); (try (refine gate_guard (by rfl) ?_; dsimp only)); refine zbox (N := 3) #[.string a1_0, .slice A1_1 l1_1.length c1_1, .string a1_2] 42 (fun gb197 hg w5 hbox hb => ?_); replace BK197 := Aside0.mk hbox; replace GW197 := zg w hg; replace GE197 := zg w hg; replace HB := zw hb; replace NB196_197 := zn BK196 hg; replace NB197_196 := zm BK196 hg; replace BK196 := zb BK196 hb; clear hb hbox hg)))
 (try simp only [Act.put, List.setIfInBounds_toArray, List.set_cons_zero, List.set_cons_succ])
 go_cut [26] (fun v26 wc => ∃ (kq : Nat) (x26_2 : Bool), v26 = .bool x26_2 ∧ Aside0 (trystlaw10_Same.j0 kq x26_2 a0_0 l0_1 a0_2 a1_0 l1_1 a1_2 = some r) ∧ Aside0 (kq ≤ k) ∧ Aside0 (wc.heap[gb196]? = some (.cells #[.string a0_0, (.slice A0_1 l0_1.length c0_1), .string a0_2] 42 (0, 0))) ∧ Aside0 (wc.heap[gb197]? = some (.cells #[.string a1_0, (.slice A1_1 l1_1.length c1_1), .string a1_2] 42 (0, 0))) ∧ Aside0 (Below w.heap.size w wc))
 case first =>
  have H := HC3.out; clear HC3; replace H := zIe H; rcases H with ⟨-, c6b0, c6b1, H⟩ | ⟨c6, c6b0, c6b1, H⟩
  ·(first | rw [c6b0] | (simp only [i64_w, i32_w]; rw [c6b0]) | skip)
   replace H := zIe H; rcases H with ⟨-, c7b0, c7b1, H⟩ | ⟨c7, c7b0, c7b1, H⟩
   ·have H' := Aside0.mk H; clear H; have hnb8 := NB196_197.out; have hnc8 := NB197_196.out; have hcz9_0 := zc0 BK196; have hcz9_1 := zc1 BK196; have hcz9_2 := zc2 BK196; have hfz9_0 := zf BK196 0; have hfz9_1 := zf BK196 1; have hfz9_2 := zf BK196 2; have hcz10_0 := zc0 BK197; have hcz10_1 := zc1 BK197; have hcz10_2 := zc2 BK197; have hfz10_0 := zf BK197 0
    have hfz10_1 := zf BK197 1; have hfz10_2 := zf BK197 2; go_wp2
    repeat (go_quiet (fail); try go_wp2)
    go_meet
    case rel => exact ⟨_, (((l0_1.length : Int) != (l1_1.length : Int))), zS, H', ⟨by first | omega | exact Nat.le_refl _⟩, ⟨blk_below BK196.out zX⟩, ⟨blk_below BK197.out zX⟩, ⟨zB⟩⟩
   ·have H' := Aside0.mk H; clear H; have hnb11 := NB196_197.out; have hnc11 := NB197_196.out; have hcz12_0 := zc0 BK196; have hcz12_1 := zc1 BK196; have hcz12_2 := zc2 BK196; have hfz12_0 := zf BK196 0; have hfz12_1 := zf BK196 1; have hfz12_2 := zf BK196 2; have hcz13_0 := zc0 BK197; have hcz13_1 := zc1 BK197; have hcz13_2 := zc2 BK197; have hfz13_0 := zf BK197 0
    have hfz13_1 := zf BK197 1; have hfz13_2 := zf BK197 2; go_wp2
    repeat (go_quiet (fail); try go_wp2)
    go_meet
    case rel => exact ⟨_, (true), zS, H', ⟨by first | omega | exact Nat.le_refl _⟩, ⟨blk_below BK196.out zX⟩, ⟨blk_below BK197.out zX⟩, ⟨zB⟩⟩
  ·(first | rw [c6b0] | (simp only [i64_w, i32_w]; rw [c6b0]) | skip)
   have H' := Aside0.mk H; clear H; have hnb14 := NB196_197.out; have hnc14 := NB197_196.out; have hcz15_0 := zc0 BK196; have hcz15_1 := zc1 BK196; have hcz15_2 := zc2 BK196; have hfz15_0 := zf BK196 0; have hfz15_1 := zf BK196 1; have hfz15_2 := zf BK196 2; have hcz16_0 := zc0 BK197; have hcz16_1 := zc1 BK197; have hcz16_2 := zc2 BK197; have hfz16_0 := zf BK197 0
   have hfz16_1 := zf BK197 1; have hfz16_2 := zf BK197 2; go_wp2
   repeat (go_quiet (fail); try go_wp2)
   go_meet
   case rel => exact ⟨_, (true), zS, H', ⟨by first | omega | exact Nat.le_refl _⟩, ⟨blk_below BK196.out zX⟩, ⟨blk_below BK197.out zX⟩, ⟨zB⟩⟩
 case rest =>
  clear HC3; obtain ⟨kq, x26_2, rfl, HA, HJ2, BK196, BK197, HB⟩ := hcut
  cases kq with
  | zero => exact absurd HA.out (by simp [trystlaw10_Same.j0])
  | succ kj2 =>
   have H := HA.out; clear HA; simp only [trystlaw10_Same.j0] at H; replace H := zIb H; rcases H with ⟨rfl, H⟩ | ⟨rfl, H⟩
   ·obtain rfl := Option.some.inj H; go_wp2
    repeat (go_quiet (fail); try go_wp2)
    go_ret; exact ⟨zE, zB⟩
   ·have H' := Aside0.mk H; clear H; have hnb18 := NB196_197.out; have hnc18 := NB197_196.out; have hcz19_0 := zc0 BK196; have hcz19_1 := zc1 BK196; have hcz19_2 := zc2 BK196; have hfz19_0 := zf BK196 0; have hfz19_1 := zf BK196 1; have hfz19_2 := zf BK196 2; go_wp2
    repeat (go_quiet (fail); try go_wp2)
    go_loopg [30] kj2 (fun kq v30 w' => ∃ (x30_2 : Int), v30 = .int .i64 x30_2 ∧ Aside0 (trystlaw10_Same.l0 kq (l0_1.length : Int) x30_2 a0_0 l0_1 a0_2 a1_0 l1_1 a1_2 = some r) ∧ Aside0 (kq ≤ kj2) ∧ Aside0 (w'.heap[gb196]? = some (.cells #[.string a0_0, (.slice A0_1 l0_1.length c0_1), .string a0_2] 42 (0, 0))) ∧ Aside0 (w'.heap[gb197]? = some (.cells #[.string a1_0, (.slice A1_1 l1_1.length c1_1), .string a1_2] 42 (0, 0))) ∧ Aside0 (Below w.heap.size w w'))
    case atStart => exact ⟨(0), zS, H', ⟨Nat.le_refl _⟩, ⟨blk_below BK196.out zX⟩, ⟨blk_below BK197.out zX⟩, ⟨zB⟩⟩
    case round =>
     clear H'; clear hcz19_0 hcz19_1 hcz19_2 hfz19_0 hfz19_1 hfz19_2; obtain ⟨x30_2, rfl, HA, HK2, BK196, BK197, HB⟩ := hrel
     cases gk with
     | zero => exact absurd HA.out (by simp [trystlaw10_Same.l0])
     | succ k2 =>
      have H := HA.out; clear HA; simp only [trystlaw10_Same.l0] at H; replace H := zId H; rcases H with ⟨-, c20b0, H⟩ | ⟨-, c20b0, H⟩
      ·replace H := zJd H; obtain ⟨-, c21b0, H⟩ := H; replace H := zJd H; obtain ⟨-, c22b0, H⟩ := H; replace H := zJd H; obtain ⟨-, c23b0, H⟩ := H; replace H := zIe H; rcases H with ⟨-, c24b0, c24b1, H⟩ | ⟨c24, c24b0, c24b1, H⟩
       ·replace H := Option.bind_eq_some_iff.mp H; obtain ⟨t202, A250, H⟩ := H; replace H : (if t202 = true then (trystlaw10_Same.l0 k2 (l0_1.length : Int) (wrap64 (x30_2 + 1)) a0_0 l0_1 a0_2 a1_0 l1_1 a1_2) else (some false)) = some r := H; have A25 := Aside0.mk A250; clear A250; replace H := zIb H; rcases H with ⟨rfl, H⟩ | ⟨rfl, H⟩
        ·have H' := Aside0.mk H; clear H; have hnb27 := NB196_197.out; have hnc27 := NB197_196.out; have hcz28_0 := zc0 BK196; have hcz28_1 := zc1 BK196; have hcz28_2 := zc2 BK196; have hfz28_0 := zf BK196 0; have hfz28_1 := zf BK196 1; have hfz28_2 := zf BK196 2; have p198 := zQ (0 ≤ (x30_2 : Int)); have q198 := zQ (x30_2 < (l0_1.length : Int)); obtain ⟨ad198, A198_1, c198_1, e198, hx198_0, hx198_1, hl198_1, hi198_1⟩ := at_T62 HR0_1.out x30_2 p198 q198
         cases e198
         replace hx198_0 := zx HB hx198_0; replace hx198_1 := zx HB hx198_1; have HR198_1 := Aside0.mk hi198_1; have HC198_1 := Aside0.mk hl198_1; clear hi198_1 hl198_1; replace p198 := eq_true p198; replace q198 := eq_true q198; have hcz29_0 := zc0 BK197; have hcz29_1 := zc1 BK197; have hcz29_2 := zc2 BK197; have hfz29_0 := zf BK197 0; have hfz29_1 := zf BK197 1; have hfz29_2 := zf BK197 2; have p199 := zQ (0 ≤ (x30_2 : Int)); have q199 := zQ (x30_2 < (l1_1.length : Int))
         obtain ⟨ad199, A199_1, c199_1, e199, hx199_0, hx199_1, hl199_1, hi199_1⟩ := at_T62 HR1_1.out x30_2 p199 q199
         cases e199
         replace hx199_0 := zx HB hx199_0; replace hx199_1 := zx HB hx199_1; have HR199_1 := Aside0.mk hi199_1; have HC199_1 := Aside0.mk hl199_1; clear hi199_1 hl199_1; replace p199 := eq_true p199; replace q199 := eq_true q199; have p200 := zQ (0 ≤ (x30_2 : Int)); have q200 := zQ (x30_2 < (l0_1.length : Int)); obtain ⟨ad200, A200_1, c200_1, e200, hx200_0, hx200_1, hl200_1, hi200_1⟩ := at_T62 HR0_1.out x30_2 p200 q200; obtain rfl : ad198 = ad200 := (by injection e200); replace hx200_0 := zx HB hx200_0; replace hx200_1 := zx HB hx200_1; have HR200_1 := Aside0.mk hi200_1; have HC200_1 := Aside0.mk hl200_1; clear hi200_1 hl200_1; replace p200 := eq_true p200
         replace q200 := eq_true q200; have ea_ := Option.some.inj (hx198_1.symm.trans hx200_1)
         injection ea_ with ea_ en_ ec_
         subst ea_; subst ec_; clear en_; have p201 := zQ (0 ≤ (x30_2 : Int)); have q201 := zQ (x30_2 < (l1_1.length : Int)); obtain ⟨ad201, A201_1, c201_1, e201, hx201_0, hx201_1, hl201_1, hi201_1⟩ := at_T62 HR1_1.out x30_2 p201 q201; obtain rfl : ad199 = ad201 := (by injection e201); replace hx201_0 := zx HB hx201_0; replace hx201_1 := zx HB hx201_1; have HR201_1 := Aside0.mk hi201_1; have HC201_1 := Aside0.mk hl201_1; clear hi201_1 hl201_1; replace p201 := eq_true p201; replace q201 := eq_true q201; have ea_ := Option.some.inj (hx199_1.symm.trans hx201_1)
         injection ea_ with ea_ en_ ec_
         subst ea_; subst ec_; clear en_
         go_wp2_with (first | (go_at_call 23; (with_reducible refine (trystlaw08_Same.calls k2 _ _ ((rd_T62 l0_1 x30_2).f1) _ _ ((rd_T62 l1_1 x30_2).f1) true _ zG ?side1 ?side2 ?side3 ?side4 A25.out).mono ?_); (case side1 => exact Kd.C_below (Kd.C_below HR200_1.out HB.out) zX); (case side2 => exact HC200_1.out); (case side3 => exact Kd.C_below (Kd.C_below HR201_1.out HB.out) zX); (case side4 => exact HC201_1.out); rintro e w' ⟨rfl, ⟨nd, rfl⟩⟩; (try first | exact ⟨rfl, _, World.drewN_drewN _ _ _⟩ | exact ⟨rfl, _, Eq.trans (World.drewN_drewN _ _ _) (congrArg (World.drewN _) (Nat.add_assoc _ _ _))⟩)))
         repeat (go_quiet (first | (go_at_call 23; (with_reducible refine (trystlaw08_Same.calls k2 _ _ ((rd_T62 l0_1 x30_2).f1) _ _ ((rd_T62 l1_1 x30_2).f1) true _ zG ?side1 ?side2 ?side3 ?side4 A25.out).mono ?_); (case side1 => exact Kd.C_below (Kd.C_below HR200_1.out HB.out) zX); (case side2 => exact HC200_1.out); (case side3 => exact Kd.C_below (Kd.C_below HR201_1.out HB.out) zX); (case side4 => exact HC201_1.out); rintro e w' ⟨rfl, ⟨nd, rfl⟩⟩; (try first | exact ⟨rfl, _, World.drewN_drewN _ _ _⟩ | exact ⟨rfl, _, Eq.trans (World.drewN_drewN _ _ _) (congrArg (World.drewN _) (Nat.add_assoc _ _ _))⟩))); try go_wp2_with (first | (go_at_call 23; (with_reducible refine (trystlaw08_Same.calls k2 _ _ ((rd_T62 l0_1 x30_2).f1) _ _ ((rd_T62 l1_1 x30_2).f1) true _ zG ?side1 ?side2 ?side3 ?side4 A25.out).mono ?_); (case side1 => exact Kd.C_below (Kd.C_below HR200_1.out HB.out) zX); (case side2 => exact HC200_1.out); (case side3 => exact Kd.C_below (Kd.C_below HR201_1.out HB.out) zX); (case side4 => exact HC201_1.out); rintro e w' ⟨rfl, ⟨nd, rfl⟩⟩; (try first | exact ⟨rfl, _, World.drewN_drewN _ _ _⟩ | exact ⟨rfl, _, Eq.trans (World.drewN_drewN _ _ _) (congrArg (World.drewN _) (Nat.add_assoc _ _ _))⟩))))
         go_roundg k2
         case measure => have := HJ2.out; have := HK2.out; omega
         case rel => exact ⟨(wrap64 (x30_2 + 1)), zS, H', ⟨by have := HJ2.out; have := HK2.out; omega⟩, ⟨blk_below BK196.out zX⟩, ⟨blk_below BK197.out zX⟩, ⟨zB⟩⟩
        ·obtain rfl := Option.some.inj H; have hnb30 := NB196_197.out; have hnc30 := NB197_196.out; have hcz31_0 := zc0 BK196; have hcz31_1 := zc1 BK196; have hcz31_2 := zc2 BK196; have hfz31_0 := zf BK196 0; have hfz31_1 := zf BK196 1; have hfz31_2 := zf BK196 2; have p198 := zQ (0 ≤ (x30_2 : Int)); have q198 := zQ (x30_2 < (l0_1.length : Int)); obtain ⟨ad198, A198_1, c198_1, e198, hx198_0, hx198_1, hl198_1, hi198_1⟩ := at_T62 HR0_1.out x30_2 p198 q198
         cases e198
         replace hx198_0 := zx HB hx198_0; replace hx198_1 := zx HB hx198_1; have HR198_1 := Aside0.mk hi198_1; have HC198_1 := Aside0.mk hl198_1; clear hi198_1 hl198_1; replace p198 := eq_true p198; replace q198 := eq_true q198; have hcz32_0 := zc0 BK197; have hcz32_1 := zc1 BK197; have hcz32_2 := zc2 BK197; have hfz32_0 := zf BK197 0; have hfz32_1 := zf BK197 1; have hfz32_2 := zf BK197 2; have p199 := zQ (0 ≤ (x30_2 : Int)); have q199 := zQ (x30_2 < (l1_1.length : Int))
         obtain ⟨ad199, A199_1, c199_1, e199, hx199_0, hx199_1, hl199_1, hi199_1⟩ := at_T62 HR1_1.out x30_2 p199 q199
         cases e199
         replace hx199_0 := zx HB hx199_0; replace hx199_1 := zx HB hx199_1; have HR199_1 := Aside0.mk hi199_1; have HC199_1 := Aside0.mk hl199_1; clear hi199_1 hl199_1; replace p199 := eq_true p199; replace q199 := eq_true q199; have p200 := zQ (0 ≤ (x30_2 : Int)); have q200 := zQ (x30_2 < (l0_1.length : Int)); obtain ⟨ad200, A200_1, c200_1, e200, hx200_0, hx200_1, hl200_1, hi200_1⟩ := at_T62 HR0_1.out x30_2 p200 q200; obtain rfl : ad198 = ad200 := (by injection e200); replace hx200_0 := zx HB hx200_0; replace hx200_1 := zx HB hx200_1; have HR200_1 := Aside0.mk hi200_1; have HC200_1 := Aside0.mk hl200_1; clear hi200_1 hl200_1; replace p200 := eq_true p200
         replace q200 := eq_true q200; have ea_ := Option.some.inj (hx198_1.symm.trans hx200_1)
         injection ea_ with ea_ en_ ec_
         subst ea_; subst ec_; clear en_; have p201 := zQ (0 ≤ (x30_2 : Int)); have q201 := zQ (x30_2 < (l1_1.length : Int)); obtain ⟨ad201, A201_1, c201_1, e201, hx201_0, hx201_1, hl201_1, hi201_1⟩ := at_T62 HR1_1.out x30_2 p201 q201; obtain rfl : ad199 = ad201 := (by injection e201); replace hx201_0 := zx HB hx201_0; replace hx201_1 := zx HB hx201_1; have HR201_1 := Aside0.mk hi201_1; have HC201_1 := Aside0.mk hl201_1; clear hi201_1 hl201_1; replace p201 := eq_true p201; replace q201 := eq_true q201; have ea_ := Option.some.inj (hx199_1.symm.trans hx201_1)
         injection ea_ with ea_ en_ ec_
         subst ea_; subst ec_; clear en_
         go_wp2_with (first | (go_at_call 23; (with_reducible refine (trystlaw08_Same.calls k2 _ _ ((rd_T62 l0_1 x30_2).f1) _ _ ((rd_T62 l1_1 x30_2).f1) false _ zG ?side1 ?side2 ?side3 ?side4 A25.out).mono ?_); (case side1 => exact Kd.C_below (Kd.C_below HR200_1.out HB.out) zX); (case side2 => exact HC200_1.out); (case side3 => exact Kd.C_below (Kd.C_below HR201_1.out HB.out) zX); (case side4 => exact HC201_1.out); rintro e w' ⟨rfl, ⟨nd, rfl⟩⟩; (try first | exact ⟨rfl, _, World.drewN_drewN _ _ _⟩ | exact ⟨rfl, _, Eq.trans (World.drewN_drewN _ _ _) (congrArg (World.drewN _) (Nat.add_assoc _ _ _))⟩)))
         repeat (go_quiet (first | (go_at_call 23; (with_reducible refine (trystlaw08_Same.calls k2 _ _ ((rd_T62 l0_1 x30_2).f1) _ _ ((rd_T62 l1_1 x30_2).f1) false _ zG ?side1 ?side2 ?side3 ?side4 A25.out).mono ?_); (case side1 => exact Kd.C_below (Kd.C_below HR200_1.out HB.out) zX); (case side2 => exact HC200_1.out); (case side3 => exact Kd.C_below (Kd.C_below HR201_1.out HB.out) zX); (case side4 => exact HC201_1.out); rintro e w' ⟨rfl, ⟨nd, rfl⟩⟩; (try first | exact ⟨rfl, _, World.drewN_drewN _ _ _⟩ | exact ⟨rfl, _, Eq.trans (World.drewN_drewN _ _ _) (congrArg (World.drewN _) (Nat.add_assoc _ _ _))⟩))); try go_wp2_with (first | (go_at_call 23; (with_reducible refine (trystlaw08_Same.calls k2 _ _ ((rd_T62 l0_1 x30_2).f1) _ _ ((rd_T62 l1_1 x30_2).f1) false _ zG ?side1 ?side2 ?side3 ?side4 A25.out).mono ?_); (case side1 => exact Kd.C_below (Kd.C_below HR200_1.out HB.out) zX); (case side2 => exact HC200_1.out); (case side3 => exact Kd.C_below (Kd.C_below HR201_1.out HB.out) zX); (case side4 => exact HC201_1.out); rintro e w' ⟨rfl, ⟨nd, rfl⟩⟩; (try first | exact ⟨rfl, _, World.drewN_drewN _ _ _⟩ | exact ⟨rfl, _, Eq.trans (World.drewN_drewN _ _ _) (congrArg (World.drewN _) (Nat.add_assoc _ _ _))⟩))))
         go_ret; exact ⟨zE, zB⟩
       ·obtain rfl := Option.some.inj H; have hnb33 := NB196_197.out; have hnc33 := NB197_196.out; have hcz34_0 := zc0 BK196; have hcz34_1 := zc1 BK196; have hcz34_2 := zc2 BK196; have hfz34_0 := zf BK196 0; have hfz34_1 := zf BK196 1; have hfz34_2 := zf BK196 2; have p198 := zQ (0 ≤ (x30_2 : Int)); have q198 := zQ (x30_2 < (l0_1.length : Int)); obtain ⟨ad198, A198_1, c198_1, e198, hx198_0, hx198_1, hl198_1, hi198_1⟩ := at_T62 HR0_1.out x30_2 p198 q198
        cases e198
        replace hx198_0 := zx HB hx198_0; replace hx198_1 := zx HB hx198_1; have HR198_1 := Aside0.mk hi198_1; have HC198_1 := Aside0.mk hl198_1; clear hi198_1 hl198_1; replace p198 := eq_true p198; replace q198 := eq_true q198; have hcz35_0 := zc0 BK197; have hcz35_1 := zc1 BK197; have hcz35_2 := zc2 BK197; have hfz35_0 := zf BK197 0; have hfz35_1 := zf BK197 1; have hfz35_2 := zf BK197 2; have p199 := zQ (0 ≤ (x30_2 : Int)); have q199 := zQ (x30_2 < (l1_1.length : Int))
        obtain ⟨ad199, A199_1, c199_1, e199, hx199_0, hx199_1, hl199_1, hi199_1⟩ := at_T62 HR1_1.out x30_2 p199 q199
        cases e199
        replace hx199_0 := zx HB hx199_0; replace hx199_1 := zx HB hx199_1; have HR199_1 := Aside0.mk hi199_1; have HC199_1 := Aside0.mk hl199_1; clear hi199_1 hl199_1; replace p199 := eq_true p199; replace q199 := eq_true q199; go_wp2
        repeat (go_quiet (fail); try go_wp2)
        go_ret; exact ⟨zE, zB⟩
      ·obtain rfl := Option.some.inj H; go_wp2
       repeat (go_quiet (fail); try go_wp2)
       go_ret; exact ⟨zE, zB⟩
end Go.Proofs.YtdojmdbaiddkgaaDoor.Print
end
section
namespace Go.Proofs.YtdojmdbaiddkgaaDoor.Print
open Go.RowKit Go.Proofs.YtdojmdbaiddkgaaDoorW.PrintWords Go.Proofs.YtdojmdbaiddkgaaDoorW.PrintLast Go.Proofs.YtdojmdbaiddkgaaDoorW.PrintMore
set_option linter.unusedVariables false
set_option linter.unusedSimpArgs false
def stringslite_HasSuffix.f (a0 : ByteArray) (a1 : ByteArray) : Option (Bool) := if (a0.size : Int) ≥ (a1.size : Int) then (if 0 ≤ (wrap64 ((a0.size : Int) - (a1.size : Int))) then (if (wrap64 ((a0.size : Int) - (a1.size : Int))) ≤ (a0.size : Int) then (some ((a0.extract ((wrap64 ((a0.size : Int) - (a1.size : Int))) : Int).toNat a0.size).toList == a1.toList)) else (none)) else (none)) else (some false)
set_option maxHeartbeats 8000000 in
set_option maxRecDepth 100000 in
theorem stringslite_HasSuffix.calls (a0 : ByteArray) (a1 : ByteArray) (r : Bool) (w : World) (hG : GG w) (h : stringslite_HasSuffix.f a0 a1 = some r) :
  Calls Tryd.prog 62 #[.string a0, .string a1] w fun e w' => e = .returned (.bool r) ∧ Drawn0 w w' := by
 have H : (if (a0.size : Int) ≥ (a1.size : Int) then (if 0 ≤ (wrap64 ((a0.size : Int) - (a1.size : Int))) then (if (wrap64 ((a0.size : Int) - (a1.size : Int))) ≤ (a0.size : Int) then (some ((a0.extract ((wrap64 ((a0.size : Int) - (a1.size : Int))) : Int).toNat a0.size).toList == a1.toList)) else (none)) else (none)) else (some false)) = some r := h; clear h; replace H := zI H; rcases H with ⟨c3, H⟩ | ⟨c3, H⟩
 ·have c3b0 : decide ((a1.size : Int) ≤ (a0.size : Int)) = true := decide_eq_true c3; have c3b1 : decide (a1.size ≤ a0.size) = true := decide_eq_true (Int.ofNat_le.mp c3); clear c3; obtain ⟨ji4, hji4⟩ : ∃ j_ : Int, (wrap64 ((a0.size : Int) - (a1.size : Int))) = j_ := ⟨_, rfl⟩; replace H : (if 0 ≤ (ji4) then (if (ji4) ≤ (a0.size : Int) then (some ((a0.extract ((ji4) : Int).toNat a0.size).toList == a1.toList)) else (none)) else (none)) = some r := by first | (rw [hji4] at H; exact H) | (simp only [hji4] at H ⊢; exact H)
  have hji4w : (IntKind.i64.wrap ((a0.size : Int) - (a1.size : Int))) = ji4 := (i64_w _).trans hji4; replace H := zJ H; obtain ⟨c5, H⟩ := H; have c5b0 := eq_true c5; have c5b1 : decide (0 ≤ (ji4)) = true := decide_eq_true c5; clear c5; replace H := zJ H; obtain ⟨c6, H⟩ := H; have c6b0 := eq_true c6; have c6b1 : decide ((ji4) ≤ (a0.size : Int)) = true := decide_eq_true c6; clear c6; obtain rfl := Option.some.inj H
  go_enter Tryd.func62, Tryd.ntmps62
  go_wp2; go_ret
  exact ⟨by first | rfl | (simp; done) | (simp only [← hji4] <;> (first | rfl | simp)) | (simp [*]; done), zD⟩
 ·have c3b0 : decide ((a1.size : Int) ≤ (a0.size : Int)) = false := decide_eq_false c3; have c3b1 : decide (a1.size ≤ a0.size) = false := decide_eq_false (fun h => c3 (Int.ofNat_le.mpr h)); clear c3; obtain rfl := Option.some.inj H
  go_enter Tryd.func62, Tryd.ntmps62
  go_wp2; go_ret
  exact ⟨zS, zD⟩
def stringslite_TrimSuffix.f (a0 : ByteArray) (a1 : ByteArray) : Option (ByteArray) := (stringslite_HasSuffix.f a0 a1).bind fun t101 => (if t101 = true then (if 0 ≤ (wrap64 ((a0.size : Int) - (a1.size : Int))) then (if (wrap64 ((a0.size : Int) - (a1.size : Int))) ≤ (a0.size : Int) then (some (a0.extract 0 ((wrap64 ((a0.size : Int) - (a1.size : Int))) : Int).toNat)) else (none)) else (none)) else (some a0))
set_option maxHeartbeats 8000000 in
set_option maxRecDepth 100000 in
theorem stringslite_TrimSuffix.calls (a0 : ByteArray) (a1 : ByteArray) (r : ByteArray) (w : World) (hG : GG w) (h : stringslite_TrimSuffix.f a0 a1 = some r) :
  Calls Tryd.prog 56 #[.string a0, .string a1] w fun e w' => e = .returned (.string r) ∧ Drawn0 w w' := by
 have H : ((stringslite_HasSuffix.f a0 a1).bind fun t101 => (if t101 = true then (if 0 ≤ (wrap64 ((a0.size : Int) - (a1.size : Int))) then (if (wrap64 ((a0.size : Int) - (a1.size : Int))) ≤ (a0.size : Int) then (some (a0.extract 0 ((wrap64 ((a0.size : Int) - (a1.size : Int))) : Int).toNat)) else (none)) else (none)) else (some a0))) = some r := h; clear h; replace H := Option.bind_eq_some_iff.mp H; obtain ⟨t101, A30, H⟩ := H; replace H : (if t101 = true then (if 0 ≤ (wrap64 ((a0.size : Int) - (a1.size : Int))) then (if (wrap64 ((a0.size : Int) - (a1.size : Int))) ≤ (a0.size : Int) then (some (a0.extract 0 ((wrap64 ((a0.size : Int) - (a1.size : Int))) : Int).toNat)) else (none)) else (none)) else (some a0)) = some r := H; have A3 := Aside0.mk A30; clear A30; replace H := zIb H; rcases H with ⟨rfl, H⟩ | ⟨rfl, H⟩
 ·obtain ⟨ji5, hji5⟩ : ∃ j_ : Int, (wrap64 ((a0.size : Int) - (a1.size : Int))) = j_ := ⟨_, rfl⟩; replace H : (if 0 ≤ (ji5) then (if (ji5) ≤ (a0.size : Int) then (some (a0.extract 0 ((ji5) : Int).toNat)) else (none)) else (none)) = some r := by first | (rw [hji5] at H; exact H) | (simp only [hji5] at H ⊢; exact H)
  (try rw [hji5] at A3); have hji5w : (IntKind.i64.wrap ((a0.size : Int) - (a1.size : Int))) = ji5 := (i64_w _).trans hji5; replace H := zJ H; obtain ⟨c6, H⟩ := H; have c6b0 := eq_true c6; have c6b1 : decide (0 ≤ (ji5)) = true := decide_eq_true c6; clear c6; replace H := zJ H; obtain ⟨c7, H⟩ := H; have c7b0 := eq_true c7; have c7b1 : decide ((ji5) ≤ (a0.size : Int)) = true := decide_eq_true c7; clear c7; obtain rfl := Option.some.inj H
  go_enter Tryd.func56, Tryd.ntmps56
  go_wp2_with (first | ((with_reducible refine gate_callee (f := 62) rfl ?_); refine goesL_ (some 7) rfl rfl Tryd.func62 (by kernel_rfl) rfl #[.string a0, .string a1] rfl zA ?_; (with_reducible refine (stringslite_HasSuffix.calls a0 a1 true _ zG2 A3.out).mono ?_); rintro e w' ⟨rfl, ⟨nd, rfl⟩⟩; refine ⟨_, rfl, ?_⟩))
  go_ret; exact ⟨by first | rfl | (simp; done) | (simp only [← hji5] <;> (first | rfl | simp)) | (simp [*]; done), zD⟩
 ·obtain rfl := Option.some.inj H
  go_enter Tryd.func56, Tryd.ntmps56
  go_wp2_with (first | ((with_reducible refine gate_callee (f := 62) rfl ?_); refine goesL_ (some 7) rfl rfl Tryd.func62 (by kernel_rfl) rfl #[.string a0, .string a1] rfl zA ?_; (with_reducible refine (stringslite_HasSuffix.calls a0 a1 false _ zG2 A3.out).mono ?_); rintro e w' ⟨rfl, ⟨nd, rfl⟩⟩; refine ⟨_, rfl, ?_⟩))
  go_ret; exact ⟨zS, zD⟩
def strings_TrimSuffix.f (a0 : ByteArray) (a1 : ByteArray) : Option (ByteArray) := (stringslite_TrimSuffix.f a0 a1).bind fun t102 => (some t102)
set_option maxHeartbeats 8000000 in
set_option maxRecDepth 100000 in
theorem strings_TrimSuffix.calls (a0 : ByteArray) (a1 : ByteArray) (r : ByteArray) (w : World) (hG : GG w) (h : strings_TrimSuffix.f a0 a1 = some r) :
  Calls Tryd.prog 50 #[.string a0, .string a1] w fun e w' => e = .returned (.string r) ∧ Drawn0 w w' := by
 have H : ((stringslite_TrimSuffix.f a0 a1).bind fun t102 => (some t102)) = some r := h; clear h; replace H := Option.bind_eq_some_iff.mp H; obtain ⟨t102, A30, H⟩ := H; replace H : (some t102) = some r := H; have A3 := Aside0.mk A30; clear A30; obtain rfl := Option.some.inj H
 go_enter Tryd.func50, Tryd.ntmps50
 go_wp2_with (first | ((with_reducible refine gate_callee (f := 56) rfl ?_); refine goesL_ (some 7) rfl rfl Tryd.func56 (by kernel_rfl) rfl #[.string a0, .string a1] rfl zA ?_; (with_reducible refine (stringslite_TrimSuffix.calls a0 a1 t102 _ zG2 A3.out).mono ?_); rintro e w' ⟨rfl, ⟨nd, rfl⟩⟩; refine ⟨_, rfl, ?_⟩))
 go_ret; exact ⟨zS, zD⟩
def fold_piece.f (a0 : ByteArray) : Option (ByteArray × ByteArray × Bool) := (strings_IndexByte.f a0 10).bind fun t103 => (if t103 < 0 then (some ((⟨#[]⟩ : ByteArray), (⟨#[]⟩ : ByteArray), false)) else (if 0 ≤ t103 then (if t103 ≤ (a0.size : Int) then ((strings_TrimSuffix.f (a0.extract 0 (t103 : Int).toNat) (⟨#[13]⟩ : ByteArray)).bind fun t104 => (if 0 ≤ (wrap64 (t103 + 1)) then (if (wrap64 (t103 + 1)) ≤ (a0.size : Int) then (if t104.toList = ([] : List UInt8) then (some (t104, a0.extract ((wrap64 (t103 + 1)) : Int).toNat a0.size, false)) else ((strings_ContainsRune.f t104 13).bind fun t105 => (some (t104, a0.extract ((wrap64 (t103 + 1)) : Int).toNat a0.size, !t105)))) else (none)) else (none))) else (none)) else (none)))
set_option maxHeartbeats 8000000 in
set_option maxRecDepth 100000 in
theorem fold_piece.calls (a0 : ByteArray) (r1 : ByteArray) (r2 : ByteArray) (r3 : Bool) (w : World) (hG : GG w) (h : fold_piece.f a0 = some (r1, r2, r3)) :
  Calls Tryd.prog 42 #[.string a0] w fun e w' => e = .returned (.tuple #[.string r1, .string r2, .bool r3]) ∧ Drawn0 w w' := by
 have H : ((strings_IndexByte.f a0 10).bind fun t103 => (if t103 < 0 then (some ((⟨#[]⟩ : ByteArray), (⟨#[]⟩ : ByteArray), false)) else (if 0 ≤ t103 then (if t103 ≤ (a0.size : Int) then ((strings_TrimSuffix.f (a0.extract 0 (t103 : Int).toNat) (⟨#[13]⟩ : ByteArray)).bind fun t104 => (if 0 ≤ (wrap64 (t103 + 1)) then (if (wrap64 (t103 + 1)) ≤ (a0.size : Int) then (if t104.toList = ([] : List UInt8) then (some (t104, a0.extract ((wrap64 (t103 + 1)) : Int).toNat a0.size, false)) else ((strings_ContainsRune.f t104 13).bind fun t105 => (some (t104, a0.extract ((wrap64 (t103 + 1)) : Int).toNat a0.size, !t105)))) else (none)) else (none))) else (none)) else (none)))) = some (r1, r2, r3) := h; clear h; replace H := Option.bind_eq_some_iff.mp H; obtain ⟨t103, A20, H⟩ := H
 replace H : (if t103 < 0 then (some ((⟨#[]⟩ : ByteArray), (⟨#[]⟩ : ByteArray), false)) else (if 0 ≤ t103 then (if t103 ≤ (a0.size : Int) then ((strings_TrimSuffix.f (a0.extract 0 (t103 : Int).toNat) (⟨#[13]⟩ : ByteArray)).bind fun t104 => (if 0 ≤ (wrap64 (t103 + 1)) then (if (wrap64 (t103 + 1)) ≤ (a0.size : Int) then (if t104.toList = ([] : List UInt8) then (some (t104, a0.extract ((wrap64 (t103 + 1)) : Int).toNat a0.size, false)) else ((strings_ContainsRune.f t104 13).bind fun t105 => (some (t104, a0.extract ((wrap64 (t103 + 1)) : Int).toNat a0.size, !t105)))) else (none)) else (none))) else (none)) else (none))) = some (r1, r2, r3) := H; have A2 := Aside0.mk A20; clear A20; replace H := zId H; rcases H with ⟨-, c3b0, H⟩ | ⟨-, c3b0, H⟩
 ·simp only [Option.some.injEq, Prod.mk.injEq] at H; obtain ⟨rfl, rfl, rfl⟩ := H
  go_enter Tryd.func42, Tryd.ntmps42
  go_wp2_with (first | (go_at_call 49; (with_reducible refine (strings_IndexByte.calls a0 10 t103 _ zG2 A2.out).mono ?_); rintro e w' ⟨rfl, ⟨nd, rfl⟩⟩; (try first | exact ⟨rfl, _, World.drewN_drewN _ _ _⟩ | exact ⟨rfl, _, Eq.trans (World.drewN_drewN _ _ _) (congrArg (World.drewN _) (Nat.add_assoc _ _ _))⟩)))
  repeat (go_quiet (first | (go_at_call 49; (with_reducible refine (strings_IndexByte.calls a0 10 t103 _ zG2 A2.out).mono ?_); rintro e w' ⟨rfl, ⟨nd, rfl⟩⟩; (try first | exact ⟨rfl, _, World.drewN_drewN _ _ _⟩ | exact ⟨rfl, _, Eq.trans (World.drewN_drewN _ _ _) (congrArg (World.drewN _) (Nat.add_assoc _ _ _))⟩))); try go_wp2_with (first | (go_at_call 49; (with_reducible refine (strings_IndexByte.calls a0 10 t103 _ zG2 A2.out).mono ?_); rintro e w' ⟨rfl, ⟨nd, rfl⟩⟩; (try first | exact ⟨rfl, _, World.drewN_drewN _ _ _⟩ | exact ⟨rfl, _, Eq.trans (World.drewN_drewN _ _ _) (congrArg (World.drewN _) (Nat.add_assoc _ _ _))⟩))))
  go_ret3
  exact ⟨zS, zD⟩
 ·replace H := zI H; rcases H with ⟨c4, H⟩ | ⟨c4, H⟩
  ·have c4b0 := eq_true c4; have c4b1 : decide (0 ≤ t103) = true := decide_eq_true c4; clear c4; replace H := zJ H; obtain ⟨c5, H⟩ := H; have c5b0 := eq_true c5; have c5b1 : decide (t103 ≤ (a0.size : Int)) = true := decide_eq_true c5; clear c5; replace H := Option.bind_eq_some_iff.mp H; obtain ⟨t104, A60, H⟩ := H; replace H : (if 0 ≤ (wrap64 (t103 + 1)) then (if (wrap64 (t103 + 1)) ≤ (a0.size : Int) then (if t104.toList = ([] : List UInt8) then (some (t104, a0.extract ((wrap64 (t103 + 1)) : Int).toNat a0.size, false)) else ((strings_ContainsRune.f t104 13).bind fun t105 => (some (t104, a0.extract ((wrap64 (t103 + 1)) : Int).toNat a0.size, !t105)))) else (none)) else (none)) = some (r1, r2, r3) := H; have A6 := Aside0.mk A60; clear A60; obtain ⟨ji7, hji7⟩ : ∃ j_ : Int, (wrap64 (t103 + 1)) = j_ := ⟨_, rfl⟩
   replace H : (if 0 ≤ (ji7) then (if (ji7) ≤ (a0.size : Int) then (if t104.toList = ([] : List UInt8) then (some (t104, a0.extract ((ji7) : Int).toNat a0.size, false)) else ((strings_ContainsRune.f t104 13).bind fun t105 => (some (t104, a0.extract ((ji7) : Int).toNat a0.size, !t105)))) else (none)) else (none)) = some (r1, r2, r3) := by first | (rw [hji7] at H; exact H) | (simp only [hji7] at H ⊢; exact H)
   (try rw [hji7] at A2); (try rw [hji7] at A6); have hji7w : (IntKind.i64.wrap (t103 + 1)) = ji7 := (i64_w _).trans hji7; replace H := zJ H; obtain ⟨c8, H⟩ := H; have c8b0 := eq_true c8; have c8b1 : decide (0 ≤ (ji7)) = true := decide_eq_true c8; clear c8; replace H := zJ H; obtain ⟨c9, H⟩ := H; have c9b0 := eq_true c9; have c9b1 : decide ((ji7) ≤ (a0.size : Int)) = true := decide_eq_true c9; clear c9; replace H := zIe H; rcases H with ⟨-, c10b0, c10b1, H⟩ | ⟨c10, c10b0, c10b1, H⟩
   ·simp only [Option.some.injEq, Prod.mk.injEq] at H; obtain ⟨rfl, rfl, rfl⟩ := H
    go_enter Tryd.func42, Tryd.ntmps42
    go_wp2_with (first | (go_at_call 49; (with_reducible refine (strings_IndexByte.calls a0 10 t103 _ zG2 A2.out).mono ?_); rintro e w' ⟨rfl, ⟨nd, rfl⟩⟩; (try first | exact ⟨rfl, _, World.drewN_drewN _ _ _⟩ | exact ⟨rfl, _, Eq.trans (World.drewN_drewN _ _ _) (congrArg (World.drewN _) (Nat.add_assoc _ _ _))⟩)) | (go_at_call 50; (with_reducible refine (strings_TrimSuffix.calls (a0.extract 0 (t103 : Int).toNat) (⟨#[13]⟩ : ByteArray) t104 _ zG2 A6.out).mono ?_); rintro e w' ⟨rfl, ⟨nd, rfl⟩⟩; (try first | exact ⟨rfl, _, World.drewN_drewN _ _ _⟩ | exact ⟨rfl, _, Eq.trans (World.drewN_drewN _ _ _) (congrArg (World.drewN _) (Nat.add_assoc _ _ _))⟩)))
    repeat (go_quiet (first | (go_at_call 49; (with_reducible refine (strings_IndexByte.calls a0 10 t103 _ zG2 A2.out).mono ?_); rintro e w' ⟨rfl, ⟨nd, rfl⟩⟩; (try first | exact ⟨rfl, _, World.drewN_drewN _ _ _⟩ | exact ⟨rfl, _, Eq.trans (World.drewN_drewN _ _ _) (congrArg (World.drewN _) (Nat.add_assoc _ _ _))⟩)) | (go_at_call 50; (with_reducible refine (strings_TrimSuffix.calls (a0.extract 0 (t103 : Int).toNat) (⟨#[13]⟩ : ByteArray) t104 _ zG2 A6.out).mono ?_); rintro e w' ⟨rfl, ⟨nd, rfl⟩⟩; (try first | exact ⟨rfl, _, World.drewN_drewN _ _ _⟩ | exact ⟨rfl, _, Eq.trans (World.drewN_drewN _ _ _) (congrArg (World.drewN _) (Nat.add_assoc _ _ _))⟩))); try go_wp2_with (first | (go_at_call 49; (with_reducible refine (strings_IndexByte.calls a0 10 t103 _ zG2 A2.out).mono ?_); rintro e w' ⟨rfl, ⟨nd, rfl⟩⟩; (try first | exact ⟨rfl, _, World.drewN_drewN _ _ _⟩ | exact ⟨rfl, _, Eq.trans (World.drewN_drewN _ _ _) (congrArg (World.drewN _) (Nat.add_assoc _ _ _))⟩)) | (go_at_call 50; (with_reducible refine (strings_TrimSuffix.calls (a0.extract 0 (t103 : Int).toNat) (⟨#[13]⟩ : ByteArray) t104 _ zG2 A6.out).mono ?_); rintro e w' ⟨rfl, ⟨nd, rfl⟩⟩; (try first | exact ⟨rfl, _, World.drewN_drewN _ _ _⟩ | exact ⟨rfl, _, Eq.trans (World.drewN_drewN _ _ _) (congrArg (World.drewN _) (Nat.add_assoc _ _ _))⟩))))
    go_ret3
    exact ⟨by first | rfl | (simp; done) | (simp only [← hji7] <;> (first | rfl | simp)) | (simp [*]; done), zD⟩
   ·replace H := Option.bind_eq_some_iff.mp H; obtain ⟨t105, A110, H⟩ := H; replace H : (some (t104, a0.extract ((ji7) : Int).toNat a0.size, !t105)) = some (r1, r2, r3) := H; have A11 := Aside0.mk A110; clear A110; simp only [Option.some.injEq, Prod.mk.injEq] at H; obtain ⟨rfl, rfl, rfl⟩ := H
    go_enter Tryd.func42, Tryd.ntmps42
    go_wp2_with (first | (go_at_call 49; (with_reducible refine (strings_IndexByte.calls a0 10 t103 _ zG2 A2.out).mono ?_); rintro e w' ⟨rfl, ⟨nd, rfl⟩⟩; (try first | exact ⟨rfl, _, World.drewN_drewN _ _ _⟩ | exact ⟨rfl, _, Eq.trans (World.drewN_drewN _ _ _) (congrArg (World.drewN _) (Nat.add_assoc _ _ _))⟩)) | (go_at_call 50; (with_reducible refine (strings_TrimSuffix.calls (a0.extract 0 (t103 : Int).toNat) (⟨#[13]⟩ : ByteArray) t104 _ zG2 A6.out).mono ?_); rintro e w' ⟨rfl, ⟨nd, rfl⟩⟩; (try first | exact ⟨rfl, _, World.drewN_drewN _ _ _⟩ | exact ⟨rfl, _, Eq.trans (World.drewN_drewN _ _ _) (congrArg (World.drewN _) (Nat.add_assoc _ _ _))⟩)) | (go_at_call 51; (with_reducible refine (strings_ContainsRune.calls t104 13 t105 _ zG2 A11.out).mono ?_); rintro e w' ⟨rfl, ⟨nd, rfl⟩⟩; (try first | exact ⟨rfl, _, World.drewN_drewN _ _ _⟩ | exact ⟨rfl, _, Eq.trans (World.drewN_drewN _ _ _) (congrArg (World.drewN _) (Nat.add_assoc _ _ _))⟩)))
    repeat (go_quiet (first | (go_at_call 49; (with_reducible refine (strings_IndexByte.calls a0 10 t103 _ zG2 A2.out).mono ?_); rintro e w' ⟨rfl, ⟨nd, rfl⟩⟩; (try first | exact ⟨rfl, _, World.drewN_drewN _ _ _⟩ | exact ⟨rfl, _, Eq.trans (World.drewN_drewN _ _ _) (congrArg (World.drewN _) (Nat.add_assoc _ _ _))⟩)) | (go_at_call 50; (with_reducible refine (strings_TrimSuffix.calls (a0.extract 0 (t103 : Int).toNat) (⟨#[13]⟩ : ByteArray) t104 _ zG2 A6.out).mono ?_); rintro e w' ⟨rfl, ⟨nd, rfl⟩⟩; (try first | exact ⟨rfl, _, World.drewN_drewN _ _ _⟩ | exact ⟨rfl, _, Eq.trans (World.drewN_drewN _ _ _) (congrArg (World.drewN _) (Nat.add_assoc _ _ _))⟩)) | (go_at_call 51; (with_reducible refine (strings_ContainsRune.calls t104 13 t105 _ zG2 A11.out).mono ?_); rintro e w' ⟨rfl, ⟨nd, rfl⟩⟩; (try first | exact ⟨rfl, _, World.drewN_drewN _ _ _⟩ | exact ⟨rfl, _, Eq.trans (World.drewN_drewN _ _ _) (congrArg (World.drewN _) (Nat.add_assoc _ _ _))⟩))); try go_wp2_with (first | (go_at_call 49; (with_reducible refine (strings_IndexByte.calls a0 10 t103 _ zG2 A2.out).mono ?_); rintro e w' ⟨rfl, ⟨nd, rfl⟩⟩; (try first | exact ⟨rfl, _, World.drewN_drewN _ _ _⟩ | exact ⟨rfl, _, Eq.trans (World.drewN_drewN _ _ _) (congrArg (World.drewN _) (Nat.add_assoc _ _ _))⟩)) | (go_at_call 50; (with_reducible refine (strings_TrimSuffix.calls (a0.extract 0 (t103 : Int).toNat) (⟨#[13]⟩ : ByteArray) t104 _ zG2 A6.out).mono ?_); rintro e w' ⟨rfl, ⟨nd, rfl⟩⟩; (try first | exact ⟨rfl, _, World.drewN_drewN _ _ _⟩ | exact ⟨rfl, _, Eq.trans (World.drewN_drewN _ _ _) (congrArg (World.drewN _) (Nat.add_assoc _ _ _))⟩)) | (go_at_call 51; (with_reducible refine (strings_ContainsRune.calls t104 13 t105 _ zG2 A11.out).mono ?_); rintro e w' ⟨rfl, ⟨nd, rfl⟩⟩; (try first | exact ⟨rfl, _, World.drewN_drewN _ _ _⟩ | exact ⟨rfl, _, Eq.trans (World.drewN_drewN _ _ _) (congrArg (World.drewN _) (Nat.add_assoc _ _ _))⟩))))
    go_ret3
    exact ⟨by first | rfl | (simp; done) | (simp only [← hji7] <;> (first | rfl | simp)) | (simp [*]; done), zD⟩
  ·exact zH H
def fold_goesOn.f (a0 : Int) : Option (Bool) := if a0 = 32 then (some true) else (some (a0 == 9))
set_option maxHeartbeats 8000000 in
set_option maxRecDepth 100000 in
theorem fold_goesOn.calls (a0 : Int) (r : Bool) (w : World) (hG : GG w) (h : fold_goesOn.f a0 = some r) :
  Calls Tryd.prog 43 #[.int .u8 a0] w fun e w' => e = .returned (.bool r) ∧ Drawn0 w w' := by
 have H : (if a0 = 32 then (some true) else (some (a0 == 9))) = some r := h; clear h; replace H := zIe H; rcases H with ⟨-, c2b0, c2b1, H⟩ | ⟨c2, c2b0, c2b1, H⟩
 ·obtain rfl := Option.some.inj H
  go_enter Tryd.func43, Tryd.ntmps43
  go_wp2; go_ret
  exact ⟨zS, zD⟩
 ·obtain rfl := Option.some.inj H
  go_enter Tryd.func43, Tryd.ntmps43
  go_wp2; go_ret
  exact ⟨zS, zD⟩
mutual
def fold_cut.l0 : Nat → ByteArray → List (S78) → Int → Option ((List (S78)) × Int)
 | 0, _, _, _ => none
 | k + 1, x0, x4, x5 => if x0.toList = ([] : List UInt8) then (some (x4, 0)) else ((fold_piece.f x0).bind fun bt106 => (if bt106.2.2 = true then (if 0 < (bt106.1.size : Int) then ((fold_goesOn.f (bt bt106.1 0)).bind fun t109 => (fold_cut.j1 k x4 x5 bt106.1 bt106.2.1 bt106.2.2 t109)) else (none)) else (fold_cut.j1 k x4 x5 bt106.1 bt106.2.1 bt106.2.2 false)))
def fold_cut.j1 : Nat → List (S78) → Int → ByteArray → ByteArray → Bool → Bool → Option ((List (S78)) × Int)
 | 0, _, _, _, _, _, _ => none
 | k + 1, x4, x5, x6, x7, x8, x9 => if x8 = true then (if x9 = true then (fold_cut.j2 k x4 x5 x6 x7 x9 ((x4.length : Int) == 0)) else (fold_cut.j2 k x4 x5 x6 x7 x9 false)) else (fold_cut.j2 k x4 x5 x6 x7 x9 true)
def fold_cut.j2 : Nat → List (S78) → Int → ByteArray → ByteArray → Bool → Bool → Option ((List (S78)) × Int)
 | 0, _, _, _, _, _, _ => none
 | k + 1, x4, x5, x6, x7, x9, x35 => if x35 = true then (some (([] : List (S78)), x5)) else (if x9 = true then (if 0 ≤ (wrap64 ((x4.length : Int) - 1)) then (if (wrap64 ((x4.length : Int) - 1)) < (x4.length : Int) then (if 1 ≤ (x6.size : Int) then (if ((rd_T78 x4 (wrap64 ((x4.length : Int) - 1))).f0).size + (x6.extract 1 x6.size).size ≤ 9223372036854775807 then (fold_cut.l0 k x7 (x4.set ((wrap64 ((x4.length : Int) - 1)) : Int).toNat (⟨((rd_T78 x4 (wrap64 ((x4.length : Int) - 1))).f0) ++ (x6.extract 1 x6.size), (rd_T78 x4 (wrap64 ((x4.length : Int) - 1))).f1⟩ : S78)) (wrap64 (x5 + 1))) else (none)) else (none)) else (none)) else (none)) else (if x4.length < 5864062014805 then (fold_cut.l0 k x7 (x4 ++ [(⟨x6, x5⟩ : S78)]) (wrap64 (x5 + 1))) else (none)))
end
def fold_cut.f (k : Nat) (a0 : ByteArray) : Option ((List (S78)) × Int) := fold_cut.l0 k a0 ([] : List (S78)) 1
def fold_cut.T10 : Bool × List (List Nat × List Nat) := (true, [([], []), ([], []), ([1], [1]), ([2], [2]), ([0, 3], [0, 3]), ([4], [4]), ([5], [5]), ([], []), ([7], [7]), ([6, 8], [6, 8]), ([0, 3, 0, 1, 2, 3, 4, 5, 6, 7, 8, 9], [0, 3]), ([10, 0, 1, 2, 3, 4, 5, 6, 7, 8, 9], [10]), ([11, 9, 0, 1, 2, 3, 4, 5, 6, 7, 8, 9], [9, 11])])
def fold_cut.B10 : List Nat := [0, 0, 2, 6, 15, 31, 63, 0, 128, 511, 1023, 2047, 4095]
theorem fold_cut.tab10 : rtab .any (opsOf Tryd.f30 10) = fold_cut.T10 := by kernel_rfl
theorem fold_cut.bits10 : waitsOk fold_cut.T10.2 fold_cut.B10 = true := by kernel_rfl
set_option maxHeartbeats 8000000 in
set_option maxRecDepth 100000 in
theorem fold_cut.calls (k : Nat) (a0 : ByteArray) (r1 : List (S78)) (r2 : Int) (w : World) (hG : GG w) (h : fold_cut.f k a0 = some (r1, r2)) :
  Calls Tryd.prog 30 #[.string a0] w fun e w' => ∃ v0_ : Value, e = .returned (.tuple #[v0_, .int .i64 r2]) ∧ Kd.R k78 78 w' w.heap.size (fun _ => True) v0_ r1 ∧ Below w.heap.size w w' := by
 have hu78 := Tryd.underlying78; have HB := Aside0.mk (Below.refl w.heap.size w); have H : (fold_cut.l0 k a0 ([] : List (S78)) 1) = some (r1, r2) := h; clear h; have H' := Aside0.mk H; clear H
 go_enter Tryd.func30, Tryd.ntmps30
 go_wp2
 go_loopg [0, 4, 5] k (fun kq v0 v4 v5 w' => ∃ (x0_1 : ByteArray) (x4_1 : List (S78)) (x5_1 : Int), v0 = .string x0_1 ∧ v5 = .int .i64 x5_1 ∧ Aside0 (fold_cut.l0 kq x0_1 x4_1 x5_1 = some (r1, r2)) ∧ Aside0 (kq ≤ k) ∧ Aside0 (Kd.R k78 78 w' w.heap.size (fun _ => True) v4 x4_1) ∧ Aside0 (Below w.heap.size w w'))
 case atStart => exact ⟨(a0), (([] : List (S78))), (1), zS, zS, H', ⟨Nat.le_refl _⟩, ⟨by first | exact Kd.R_nil _ _ _ _ _ | exact Kd.N_nil _ _ _ _ _ | exact Kd.V_nil _ _ _ _ _ | exact Kd.Q_nil _ _ _ _ _ | exact Kd.S_nil _ _ _ _ _⟩, ⟨zB⟩⟩
 case round =>
  clear H'; obtain ⟨x0_1, x4_1, x5_1, rfl, rfl, HA, HK1, HO_4, HB⟩ := hrel
  cases gk with
  | zero => exact absurd HA.out (by simp [fold_cut.l0])
  | succ k1 =>
   have H := HA.out; clear HA; simp only [fold_cut.l0] at H; replace H := zIe H; rcases H with ⟨-, c2b0, c2b1, H⟩ | ⟨c2, c2b0, c2b1, H⟩
   ·simp only [Option.some.injEq, Prod.mk.injEq] at H; obtain ⟨rfl, rfl⟩ := H; go_wp2; go_ret2; exact ⟨_, zE, by (with_reducible repeat (first | apply Kd.R_alloc | apply Kd.R_drewN | apply Kd.R_drew)); exact HO_4.out, zB⟩
   ·replace H := Option.bind_eq_some_iff.mp H; obtain ⟨⟨t106, t107, t108⟩, A30, H⟩ := H; replace H : (if t108 = true then (if 0 < (t106.size : Int) then ((fold_goesOn.f (bt t106 0)).bind fun t109 => (fold_cut.j1 k1 x4_1 x5_1 t106 t107 t108 t109)) else (none)) else (fold_cut.j1 k1 x4_1 x5_1 t106 t107 t108 false)) = some (r1, r2) := H; have A3 := Aside0.mk A30; clear A30; have HC4 := Aside0.mk H; clear H
    go_upto_region 6 with (first | ((with_reducible refine gate_callee (f := 42) rfl ?_); refine goesL_ (some 16) rfl rfl Tryd.func42 (by kernel_rfl) rfl #[.string x0_1] rfl zA ?_; (with_reducible refine (fold_piece.calls x0_1 t106 t107 t108 _ zG A3.out).mono ?_); rintro e w' ⟨rfl, ⟨nd, rfl⟩⟩; refine ⟨_, rfl, ?_⟩))
    (try simp only [Act.put, List.setIfInBounds_toArray, List.set_cons_zero, List.set_cons_succ])
    go_cut [9] (fun v9 wc => ∃ (kq : Nat) (x9_3 : Bool), v9 = .bool x9_3 ∧ Aside0 (fold_cut.j1 kq x4_1 x5_1 t106 t107 t108 x9_3 = some (r1, r2)) ∧ Aside0 (kq ≤ k1) ∧ Aside0 (Kd.R k78 78 wc w.heap.size (fun _ => True) u4 x4_1) ∧ Aside0 (Below w.heap.size w wc))
    case first =>
     have H := HC4.out; clear HC4; replace H := zIb H; rcases H with ⟨rfl, H⟩ | ⟨rfl, H⟩
     ·replace H := zJd H; obtain ⟨c6, c6b0, H⟩ := H; have c6b1 : decide (0 < t106.size) = true := decide_eq_true (by omega); clear c6
      (first | rw [c6b0] | (simp only [i64_w, i32_w]; rw [c6b0]) | skip)
      replace H := Option.bind_eq_some_iff.mp H; obtain ⟨t109, A80, H⟩ := H; replace H : (fold_cut.j1 k1 x4_1 x5_1 t106 t107 true t109) = some (r1, r2) := H; have A8 := Aside0.mk A80; clear A80; have H' := Aside0.mk H; clear H; have p7 : 0 ≤ (0 : Int) := (by omega); have q7 : 0 < t106.size := (by have : (0 : Int) < (t106.size : Int) := of_decide_eq_true (by first | (with_reducible assumption) | assumption); omega); have hx7 : ∀ h : 0 < t106.size, ((t106[0]'h).toNat : Int) = bt t106 0 := bt_at t106 0; clear p7; have qi7 : (0 < (t106.size : Int)) = True := eq_true (of_decide_eq_true (by first | (with_reducible assumption) | assumption)); replace q7 := eq_true q7
      go_wp2_with (first | (go_at_call 43; (with_reducible refine (fold_goesOn.calls (bt t106 0) t109 _ zG A8.out).mono ?_); rintro e w' ⟨rfl, ⟨nd, rfl⟩⟩))
      go_meet
      case rel => exact ⟨_, (t109), zS, H', ⟨by have := HK1.out; first | omega | exact Nat.le_refl _⟩, ⟨Kd.R_below HO_4.out zX⟩, ⟨zB⟩⟩
     ·have H' := Aside0.mk H; clear H; go_wp2
      go_meet
      case rel => exact ⟨_, (false), zS, H', ⟨by have := HK1.out; first | omega | exact Nat.le_refl _⟩, ⟨Kd.R_below HO_4.out zX⟩, ⟨zB⟩⟩
    case rest =>
     clear HC4; clear c2 c2b0 c2b1; obtain ⟨kq, x9_3, rfl, HA, HJ3, HO_4, HB⟩ := hcut
     cases kq with
     | zero => exact absurd HA.out (by simp [fold_cut.j1])
     | succ kj3 =>
      have H := HA.out; clear HA; simp only [fold_cut.j1] at H; have HC9 := Aside0.mk H; clear H
      go_upto_region 7 with (fail)
      go_cut [35] (fun v35 wc => ∃ (kq : Nat) (x35_8 : Bool), v35 = .bool x35_8 ∧ Aside0 (fold_cut.j2 kq x4_1 x5_1 t106 t107 x9_3 x35_8 = some (r1, r2)) ∧ Aside0 (kq ≤ kj3) ∧ Aside0 (Kd.R k78 78 wc w.heap.size (fun _ => True) u4 x4_1) ∧ Aside0 (Below w.heap.size w wc))
      case first =>
       have H := HC9.out; clear HC9; replace H := zIb H; rcases H with ⟨rfl, H⟩ | ⟨rfl, H⟩
       ·replace H := zIb H; rcases H with ⟨rfl, H⟩ | ⟨rfl, H⟩
        ·have H' := Aside0.mk H; clear H; obtain ⟨Ao12, co12, eo12⟩ := Kd.R_slice HO_4.out; subst eo12; go_wp2
         go_meet
         case rel => exact ⟨_, (((x4_1.length : Int) == 0)), zS, H', ⟨by have := HK1.out; have := HJ3.out; first | omega | exact Nat.le_refl _⟩, ⟨Kd.R_below HO_4.out zX⟩, ⟨zB⟩⟩
        ·have H' := Aside0.mk H; clear H; go_wp2
         go_meet
         case rel => exact ⟨_, (false), zS, H', ⟨by have := HK1.out; have := HJ3.out; first | omega | exact Nat.le_refl _⟩, ⟨Kd.R_below HO_4.out zX⟩, ⟨zB⟩⟩
       ·have H' := Aside0.mk H; clear H; go_wp2
        go_meet
        case rel => exact ⟨_, (true), zS, H', ⟨by have := HK1.out; have := HJ3.out; first | omega | exact Nat.le_refl _⟩, ⟨Kd.R_below HO_4.out zX⟩, ⟨zB⟩⟩
      case rest =>
       clear HC9; obtain ⟨kq, x35_8, rfl, HA, HJ8, HO_4, HB⟩ := hcut
       cases kq with
       | zero => exact absurd HA.out (by simp [fold_cut.j2])
       | succ kj8 =>
        have H := HA.out; clear HA; simp only [fold_cut.j2] at H; replace H := zIb H; rcases H with ⟨rfl, H⟩ | ⟨rfl, H⟩
        ·simp only [Option.some.injEq, Prod.mk.injEq] at H; obtain ⟨rfl, rfl⟩ := H; go_wp2; go_ret2; exact ⟨_, zE, by first | exact Kd.R_nil _ _ _ _ _ | exact Kd.N_nil _ _ _ _ _ | exact Kd.V_nil _ _ _ _ _ | exact Kd.Q_nil _ _ _ _ _ | exact Kd.S_nil _ _ _ _ _, zB⟩
        ·replace H := zIb H; rcases H with ⟨rfl, H⟩ | ⟨rfl, H⟩
         ·obtain ⟨ji15, hji15⟩ : ∃ j_ : Int, (wrap64 ((x4_1.length : Int) - 1)) = j_ := ⟨_, rfl⟩; replace H : (if 0 ≤ (ji15) then (if (ji15) < (x4_1.length : Int) then (if 1 ≤ (t106.size : Int) then (if ((rd_T78 x4_1 (ji15)).f0).size + (t106.extract 1 t106.size).size ≤ 9223372036854775807 then (fold_cut.l0 kj8 t107 (x4_1.set ((ji15) : Int).toNat (⟨((rd_T78 x4_1 (ji15)).f0) ++ (t106.extract 1 t106.size), (rd_T78 x4_1 (ji15)).f1⟩ : S78)) (wrap64 (x5_1 + 1))) else (none)) else (none)) else (none)) else (none)) = some (r1, r2) := by first | (rw [hji15] at H; exact H) | (simp only [hji15] at H ⊢; exact H)
          have hji15w : (IntKind.i64.wrap ((x4_1.length : Int) - 1)) = ji15 := (i64_w _).trans hji15; replace H := zJd H; obtain ⟨-, c16b0, H⟩ := H; replace H := zJd H; obtain ⟨-, c17b0, H⟩ := H; replace H := zJ H; obtain ⟨c18, H⟩ := H; have c18b0 := eq_true c18; have c18b1 : decide (1 ≤ (t106.size : Int)) = true := decide_eq_true c18; clear c18; replace H := zJ H; obtain ⟨c19, H⟩ := H; have c19b0 := eq_true c19; have c19b1 : decide (((rd_T78 x4_1 (ji15)).f0).size + (t106.extract 1 t106.size).size ≤ 9223372036854775807) = true := decide_eq_true c19
          try have c19b2 : (9223372036854775807 < ((rd_T78 x4_1 (ji15)).f0).size + (t106.extract 1 t106.size).size) = False := eq_false (Nat.not_lt.2 c19)
          have c19b3 : (9223372036854775807 < ((rd_T78 x4_1 (ji15)).f0).size + (t106.size - 1)) = False := by
           have h_ : (t106.extract 1 t106.size).size = t106.size - 1 := by rw [ByteArray.size_extract, Nat.min_self]
           rw [← h_]; exact eq_false (Nat.not_lt.2 c19)
          obtain ⟨y111, hy111⟩ : ∃ y_ : List (S78), y_ = (x4_1.set ((ji15) : Int).toNat (⟨((rd_T78 x4_1 (ji15)).f0) ++ (t106.extract 1 t106.size), (rd_T78 x4_1 (ji15)).f1⟩ : S78)) := ⟨_, rfl⟩; replace H : (fold_cut.l0 kj8 t107 y111 (wrap64 (x5_1 + 1))) = some (r1, r2) := by first | (rw [hy111]; with_reducible exact H) | (have H2_ := (Option.bind_some _ _).symm.trans H; rw [hy111]; with_reducible exact H2_) | (have H2_ := (Option.bind_some _ _).symm.trans H; with_reducible exact H2_) | with_reducible exact H | (rw [hy111]; exact H) | exact H
          have Ny111 := Aside0.mk hy111; clear hy111; have H' := Aside0.mk H; clear H
          try go_wp2
          replace HO_4 := Aside0.mk (Kd.R_drew HO_4.out); replace HB := Aside0.mk (below_drew1 HB.out); obtain ⟨Ao22, co22, eo22⟩ := Kd.R_slice HO_4.out
          (first | subst eo22 | (injection eo22 with f1_ f2_ f3_; have f4_ := f1_.symm; have f5_ := f3_.symm; clear f1_ f2_ f3_; subst f4_; subst f5_))
          have p110 := zQ (0 ≤ ((ji15) : Int)); have q110 := zQ ((ji15) < (x4_1.length : Int)); obtain ⟨ad110, e110, hx110_0, hx110_1⟩ := at_T78 (Kd.R_reads' HO_4.out).2.2 (ji15) p110 q110
          cases e110
          replace p110 := eq_true p110; replace q110 := eq_true q110; have p20 := zQ (0 ≤ ((ji15) : Int)); have q20 := zQ (((ji15) : Int) < ((x4_1.length : Int) : Int)); obtain ⟨go20, co20, eo20, gb20, gl20, cl20, HG20⟩ := Kd.R_form HO_4.out (by omega)
          (first | cases eo20 | (injection eo20 with ea_ en_ ec_; (first | subst ea_ | (injection ea_ with ea_; subst ea_)); subst ec_; clear en_))
          have GB20 := Aside0.mk gb20; have GG20 := Aside0.mk HG20; clear gb20 gl20 HG20
          (first | simp only [add_plain] at hx110_0 | skip)
          (first | simp only [add_plain] at hx110_1 | skip)
          obtain ⟨ce20, hcl20, hM20, hcc20, hfr20⟩ := Kd.R_elem HO_4.out z78 ((ji15) : Int) p20 q20; obtain rfl := k78_openM hM20; have hx20_0 : World.cell? _ ⟨go20, ((ji15) : Int).toNat * 2, none⟩ = some (.string ((rd_T78 x4_1 (ji15)).f0)) := hcc20 0 _ rfl; have hx20_1 : World.cell? _ ⟨go20, ((ji15) : Int).toNat * 2 + 1, none⟩ = some (.int .i64 ((rd_T78 x4_1 (ji15)).f1)) := hcc20 1 _ rfl; have hf20_0 : World.frozen? _ ⟨go20, ((ji15) : Int).toNat * 2, none⟩ = false := hfr20 0; have hf20_1 : World.frozen? _ ⟨go20, ((ji15) : Int).toNat * 2 + 1, none⟩ = false := hfr20 1; clear hcl20 hcc20 hfr20 hM20; replace p20 := eq_true p20; replace q20 := eq_true q20
          obtain ⟨ce23, hcl23, hM23, hcc23, hfr23⟩ := Kd.R_elem HO_4.out z78 ((ji15) : Int) (of_decide_eq_true (by first | (with_reducible assumption) | assumption)) (by have h_ : ((ji15) : Int) < ((x4_1.length : Int) : Int) := of_decide_eq_true (by first | (with_reducible assumption) | assumption); first | exact h_ | (have e_ := (Kd.R_reads' HO_4.out).1; omega) | simpa using h_); obtain rfl := k78_openM hM23
          have HP23 := (Kd.R_seg HO_4.out ((ji15) : Int) (of_decide_eq_true (by first | (with_reducible assumption) | assumption)) (by have h_ : ((ji15) : Int) < ((x4_1.length : Int) : Int) := of_decide_eq_true (by first | (with_reducible assumption) | assumption); first | exact h_ | (have e_ := (Kd.R_reads' HO_4.out).1; omega) | simpa using h_) (seg := [.string (((rd_T78 x4_1 (ji15)).f0) ++ (t106.extract 1 t106.size))]) (j := 0) hcl23 hcc23 (show 1 ≤ 2 from by decide) (x' := (⟨((rd_T78 x4_1 (ji15)).f0) ++ (t106.extract 1 t106.size), (rd_T78 x4_1 (ji15)).f1⟩ : S78)) (k78_mkM _ _ _ (⟨((rd_T78 x4_1 (ji15)).f0) ++ (t106.extract 1 t106.size), (rd_T78 x4_1 (ji15)).f1⟩ : S78) ) (fun _ hk => hk)).1; rw [← Ny111.out] at HP23; have HQ23 := Aside0.mk HP23; clear hcl23 hcc23 hfr23 hM23 HP23
          refine start_ (n := 13) (S := fun w' => w'.cell? ⟨go20, ((ji15) : Int).toNat * 2, none⟩ = some (.string ((rd_T78 x4_1 (ji15)).f0)) ∧ w'.cell? ⟨go20, ((ji15) : Int).toNat * 2 + 1, none⟩ = some (.int .i64 ((rd_T78 x4_1 (ji15)).f1))) (ds := [12]) #[false, false, false, false, false, false, false, false, false, false, false, false, false] (by kernel_rfl) rfl rfl ⟨hx20_0, hx20_1⟩ (fun hHeld => ?_); refine with_tabW fold_cut.tab10 fold_cut.bits10 (fun HT_ HW_ => ?_); generalize wc.drew = w21 at HO_4 HB GG20 HQ23 hf20_0 hf20_1 hx110_0 hx110_1 hx20_0 hx20_1 hHeld ⊢; refine pure_ (i := 0) (N := some 38) (v := ?_) (a' := ?_) #[true, false, false, false, false, false, false, false, false, false, false, false, false] rfl rfl (any_of HT_.out (by kernel_rfl)) (fun _ _ _ h => h) (Or.inl ⟨by rfl, ?_⟩) ?_ ?_; rotate_left
          ·intro w'; go_simp; with_reducible rfl
          rotate_left
          ·simp only [Act.put, List.setIfInBounds_toArray, List.set_cons_zero, List.set_cons_succ, i64_w, i32_w]; rfl
          refine pure_ (i := 1) (N := some 39) (v := ?_) (a' := ?_) #[true, true, false, false, false, false, false, false, false, false, false, false, false] rfl rfl (any_of HT_.out (by kernel_rfl)) (fun _ _ _ h => h) (Or.inl ⟨by rfl, ?_⟩) ?_ ?_; rotate_left
          ·intro w'; go_simp; with_reducible rfl
          rotate_left
          ·simp only [Act.put, List.setIfInBounds_toArray, List.set_cons_zero, List.set_cons_succ, i64_w, i32_w]; rfl
          refine pure_ (i := 2) (N := some 40) (v := ?_) (a' := ?_) #[true, true, true, false, false, false, false, false, false, false, false, false, false] rfl rfl (any_of HT_.out (by kernel_rfl)) (fun _ _ _ h => h) (Or.inl ⟨by rfl, ?_⟩) ?_ ?_; rotate_left
          ·intro w'; go_simp; with_reducible rfl
          rotate_left
          ·simp only [Act.put, List.setIfInBounds_toArray, List.set_cons_zero, List.set_cons_succ, i64_w, i32_w]; rfl
          refine pure_ (i := 3) (N := some 41) (v := ?_) (a' := ?_) #[true, true, true, true, false, false, false, false, false, false, false, false, false] rfl rfl (any_of HT_.out (by kernel_rfl)) (fun _ _ _ h => h) (Or.inl ⟨by rfl, ?_⟩) ?_ ?_; rotate_left
          ·intro w'; go_simp; with_reducible rfl
          rotate_left
          ·simp only [Act.put, List.setIfInBounds_toArray, List.set_cons_zero, List.set_cons_succ, i64_w, i32_w]; rfl
          refine pure_ (i := 4) (N := some 42) (v := ?_) (a' := ?_) #[true, true, true, true, true, false, false, false, false, false, false, false, false] rfl rfl (any_of HT_.out (by kernel_rfl)) (fun _ _ _ h => h) (Or.inl ⟨by rfl, ?_⟩) ?_ ?_; rotate_left
          ·intro w'; go_simp; with_reducible rfl
          rotate_left
          ·simp only [Act.put, List.setIfInBounds_toArray, List.set_cons_zero, List.set_cons_succ, i64_w, i32_w]; rfl
          refine pure_ (i := 5) (N := some 43) (v := ?_) (a' := ?_) #[true, true, true, true, true, true, false, false, false, false, false, false, false] rfl rfl (any_of HT_.out (by kernel_rfl)) (fun _ _ _ h => h) (Or.inl ⟨by rfl, ?_⟩) ?_ ?_; rotate_left
          ·intro w'; go_simp; with_reducible rfl
          rotate_left
          ·simp only [Act.put, List.setIfInBounds_toArray, List.set_cons_zero, List.set_cons_succ, i64_w, i32_w]; rfl
          refine pure_ (i := 7) (N := some 45) (v := ?_) (a' := ?_) #[true, true, true, true, true, true, false, true, false, false, false, false, false] rfl rfl (any_of HT_.out (by kernel_rfl)) (fun _ _ _ h => h) (Or.inl ⟨by rfl, ?_⟩) ?_ ?_; rotate_left
          ·intro w'; go_simp; with_reducible rfl
          rotate_left
          ·simp only [Act.put, List.setIfInBounds_toArray, List.set_cons_zero, List.set_cons_succ, i64_w, i32_w]; rfl
          refine pure_ (i := 8) (N := some 46) (v := ?_) (a' := ?_) #[true, true, true, true, true, true, false, true, true, false, false, false, false] rfl rfl (any_of HT_.out (by kernel_rfl)) (fun _ _ _ h => h) (Or.inl ⟨by rfl, ?_⟩) ?_ ?_; rotate_left
          ·intro w'; go_simp; with_reducible rfl
          rotate_left
          ·simp only [Act.put, List.setIfInBounds_toArray, List.set_cons_zero, List.set_cons_succ, i64_w, i32_w]; rfl
          refine take_ (i := 6) (N := some 44) (v := ?_) (a' := ?_) #[true, true, true, true, true, true, true, true, true, false, false, false, false] rfl rfl (take_ofW HT_.out HW_.out (by kernel_rfl)) (fun _ _ _ h => h) (Or.inl ⟨by rfl, ?_⟩) hHeld ?_ ?_; rotate_left
          ·rintro w' ⟨s0, s1⟩; go_simp; with_reducible rfl
          rotate_left
          ·simp only [Act.put, List.setIfInBounds_toArray, List.set_cons_zero, List.set_cons_succ, i64_w, i32_w]; rfl
          refine pure_ (i := 9) (N := some 47) (v := ?_) (a' := ?_) #[true, true, true, true, true, true, true, true, true, true, false, false, false] rfl rfl (any_of HT_.out (by kernel_rfl)) (fun _ _ _ h => h) (Or.inl ⟨by rfl, ?_⟩) ?_ ?_; rotate_left
          ·intro w'; go_simp; with_reducible rfl
          rotate_left
          ·simp only [Act.put, List.setIfInBounds_toArray, List.set_cons_zero, List.set_cons_succ, i64_w, i32_w]; rfl
          refine pure_ (i := 10) (N := some 48) (v := ?_) (a' := ?_) #[true, true, true, true, true, true, true, true, true, true, true, false, false] rfl rfl (any_of HT_.out (by kernel_rfl)) (fun _ _ _ h => h) (Or.inl ⟨by rfl, ?_⟩) ?_ ?_; rotate_left
          ·intro w'; go_simp; with_reducible rfl
          rotate_left
          ·simp only [Act.put, List.setIfInBounds_toArray, List.set_cons_zero, List.set_cons_succ, i64_w, i32_w]; rfl
          refine pure_ (i := 11) (N := some 49) (v := ?_) (a' := ?_) #[true, true, true, true, true, true, true, true, true, true, true, true, false] rfl rfl (any_of HT_.out (by kernel_rfl)) (fun _ _ _ h => h) (Or.inl ⟨by rfl, ?_⟩) ?_ ?_; rotate_left
          ·intro w'; go_simp; with_reducible rfl
          rotate_left
          ·simp only [Act.put, List.setIfInBounds_toArray, List.set_cons_zero, List.set_cons_succ, i64_w, i32_w]; rfl
          refine last_ (i := 12) (N := none) #[true, true, true, true, true, true, true, true, true, true, true, true, true] rfl rfl (one_of HT_.out (by kernel_rfl)) (by decide) (fun K hK => ?_); refine skip_ (w1 := ?_) (by rfl) rfl ?_ ?_; rotate_left
          ·go_simp; rfl
          refine hK.out _ _ ?_; clear hK K; refine done_ (done_of HT_.out (by kernel_rfl)) ?_
          try go_wp2
          go_roundg kj8
          case measure => have := HK1.out; have := HJ3.out; have := HJ8.out; omega
          case rel => exact ⟨(t107), (y111), (wrap64 (x5_1 + 1)), zS, zS, H', ⟨by have := HK1.out; have := HJ3.out; have := HJ8.out; omega⟩, ⟨Kd.R_below HQ23.out zX⟩, ⟨by repeat (first | (with_reducible first | exact HB.out | apply below_alloc | apply pw_below_drewN | apply below_drew1 | refine below_set ?_ GB20.out) | exact HB.out)⟩⟩
         ·replace H := zI H; rcases H with ⟨c24, H⟩ | ⟨c24, H⟩
          ·have LMc24 := Aside0.mk c24; clear c24; obtain ⟨y112, hy112⟩ : ∃ y_ : List (S78), y_ = (x4_1 ++ [(⟨t106, x5_1⟩ : S78)]) := ⟨_, rfl⟩; replace H : (fold_cut.l0 kj8 t107 y112 (wrap64 (x5_1 + 1))) = some (r1, r2) := by first | (rw [hy112]; with_reducible exact H) | (have H2_ := (Option.bind_some _ _).symm.trans H; rw [hy112]; with_reducible exact H2_) | (have H2_ := (Option.bind_some _ _).symm.trans H; with_reducible exact H2_) | with_reducible exact H | (rw [hy112]; exact H) | exact H
           have Ny112 := Aside0.mk hy112; clear hy112; have H' := Aside0.mk H; clear H
           go_wp2_with (first | ((with_reducible refine gate_builtin (b := .append) (xs := #[.tmp 50, .tmp 54]) rfl ?_); (try (refine gate_guard (by rfl) ?_; dsimp only)); at_builtin; refine Kd.R_append k78 (w0 := w) w.heap.size rfl (.tmp 50) (.tmp 54) 74 78 (.agg #[(.string ⟨#[]⟩), (.int .i64 0)]) 24 rfl Tryd.underlying74 info78 rfl (by decide) (by omega) u4 x4_1 (⟨t106, x5_1⟩ : S78) [.string t106, .int .i64 x5_1] (fun _ => True) (fun _ => False) rfl rfl ?aP (fun _ hk => hk.elim) ?aF ?aO ?aB ?aS ?aL ?_; (case aP => exact k78_mkM _ _ _ (⟨t106, x5_1⟩ : S78)); (case aB => exact zB); (case aF => exact (fun _ _ => trivial)); (case aO => exact (Kd.R_below HO_4.out zX)); (case aS => exact (below_size zB)); (case aL => have := LMc24.out; omega); intro v113 w25 ho hb hg hat; rw [← Ny112.out] at ho; have n0_ := Aside0.mk (hb); have n1_ := Aside0.mk (ho); clear HB; clear HO_4; have HB := n0_; have HO114 := n1_; clear n0_ n1_; clear ho hb hg hat))
           go_roundg kj8
           case measure => have := HK1.out; have := HJ3.out; have := HJ8.out; omega
           case rel => exact ⟨(t107), (y112), (wrap64 (x5_1 + 1)), zS, zS, H', ⟨by have := HK1.out; have := HJ3.out; have := HJ8.out; omega⟩, ⟨Kd.R_below HO114.out zX⟩, ⟨zB⟩⟩
          ·exact zH H
end Go.Proofs.YtdojmdbaiddkgaaDoor.Print
end
section
namespace Go.Proofs.YtdojmdbaiddkgaaDoor.Print
open Go.RowKit Go.Proofs.YtdojmdbaiddkgaaDoorW.PrintWords Go.Proofs.YtdojmdbaiddkgaaDoorW.PrintLast Go.Proofs.YtdojmdbaiddkgaaDoorW.PrintMore
set_option linter.unusedVariables false
set_option linter.unusedSimpArgs false
def fold_Unfold.l0 : Nat → List ByteArray → List (S78) → Int → Int → Option (List ByteArray × Int × Int)
 | 0, _, _, _, _ => none
 | k + 1, x7, x21, x22, x23 => if x23 < x22 then (if 0 ≤ x23 then (if x23 < (x21.length : Int) then ((utf8_ValidString.f ((rd_T78 x21 x23).f0)).bind fun t121 => (if t121 = true then (if (((rd_T78 x21 x23).f0).size : Int) > 2000 then (some (([] : List ByteArray), (rd_T78 x21 x23).f1, 4)) else (if x7.length < 8796093022208 then (fold_Unfold.l0 k (x7 ++ [(rd_T78 x21 x23).f0]) x21 x22 (wrap64 (x23 + 1))) else (none))) else (some (([] : List ByteArray), (rd_T78 x21 x23).f1, 3)))) else (none)) else (none)) else (some (x7, 0, 0))
def fold_Unfold.f (k : Nat) (a0 : ByteArray) : Option (List ByteArray × Int × Int) := if (a0.size : Int) > 20000 then (some (([] : List ByteArray), 0, 4)) else ((fold_cut.f k a0).bind fun bt115 => (if bt115.2 > 0 then (some (([] : List ByteArray), bt115.2, 5)) else (fold_Unfold.l0 k ([] : List ByteArray) bt115.1 (bt115.1.length : Int) 0)))
set_option maxHeartbeats 8000000 in
set_option maxRecDepth 100000 in
theorem fold_Unfold.calls (k : Nat) (a0 : ByteArray) (r1 : List ByteArray) (r2 : Int) (r3 : Int) (w : World) (hG : GG w) (h : fold_Unfold.f k a0 = some (r1, r2, r3)) :
  Calls Tryd.prog 24 #[.string a0] w fun e w' => ∃ v0_ : Value, e = .returned (.tuple #[v0_, .int .i64 r2, .int .i64 r3]) ∧ Kd.R Kd.string 9 w' w.heap.size (fun _ => True) v0_ r1 ∧ Below w.heap.size w w' := by
 have hu78 := Tryd.underlying78; have HB := Aside0.mk (Below.refl w.heap.size w); have H : (if (a0.size : Int) > 20000 then (some (([] : List ByteArray), 0, 4)) else ((fold_cut.f k a0).bind fun bt115 => (if bt115.2 > 0 then (some (([] : List ByteArray), bt115.2, 5)) else (fold_Unfold.l0 k ([] : List ByteArray) bt115.1 (bt115.1.length : Int) 0)))) = some (r1, r2, r3) := h; clear h; replace H := zI H; rcases H with ⟨c2, H⟩ | ⟨c2, H⟩
 ·have c2b0 : decide (20000 < (a0.size : Int)) = true := decide_eq_true c2; have c2b1 : decide (20000 < a0.size) = true := decide_eq_true (by omega); clear c2; simp only [Option.some.injEq, Prod.mk.injEq] at H; obtain ⟨rfl, rfl, rfl⟩ := H
  go_enter Tryd.func24, Tryd.ntmps24
  go_wp2
  repeat (go_quiet (fail); try go_wp2)
  go_ret3
  exact ⟨_, zE, by first | exact Kd.R_nil _ _ _ _ _ | exact Kd.N_nil _ _ _ _ _ | exact Kd.V_nil _ _ _ _ _ | exact Kd.Q_nil _ _ _ _ _ | exact Kd.S_nil _ _ _ _ _, zB⟩
 ·have c2b0 : decide (20000 < (a0.size : Int)) = false := decide_eq_false c2; have c2b1 : decide (20000 < a0.size) = false := decide_eq_false (by omega); clear c2; replace H := Option.bind_eq_some_iff.mp H; obtain ⟨⟨t115, t116⟩, A30, H⟩ := H; replace H : (if t116 > 0 then (some (([] : List ByteArray), t116, 5)) else (fold_Unfold.l0 k ([] : List ByteArray) t115 (t115.length : Int) 0)) = some (r1, r2, r3) := H; have A3 := Aside0.mk A30; clear A30; replace H := zI H; rcases H with ⟨c4, H⟩ | ⟨c4, H⟩
  ·have c4b0 : decide (0 < t116) = true := decide_eq_true c4; clear c4; simp only [Option.some.injEq, Prod.mk.injEq] at H; obtain ⟨rfl, rfl, rfl⟩ := H
   go_enter Tryd.func24, Tryd.ntmps24
   go_wp2_with (first | (go_at_call 30; (with_reducible refine (fold_cut.calls k a0 t115 t116 _ zG A3.out).mono ?_); rintro e w5 ⟨v117, rfl, ho0, hb⟩; replace HO118 := Aside0.mk (Kd.R_lower ho0 (below_size zB)); replace HB := zw hb; (try clear hb); (try clear ho0)))
   repeat (go_quiet (first | (go_at_call 30; (with_reducible refine (fold_cut.calls k a0 t115 t116 _ zG A3.out).mono ?_); rintro e w5 ⟨v117, rfl, ho0, hb⟩; replace HO118 := Aside0.mk (Kd.R_lower ho0 (below_size zB)); replace HB := zw hb; (try clear hb); (try clear ho0))); try go_wp2_with (first | (go_at_call 30; (with_reducible refine (fold_cut.calls k a0 t115 t116 _ zG A3.out).mono ?_); rintro e w5 ⟨v117, rfl, ho0, hb⟩; replace HO118 := Aside0.mk (Kd.R_lower ho0 (below_size zB)); replace HB := zw hb; (try clear hb); (try clear ho0))))
   go_ret3
   exact ⟨_, zE, by first | exact Kd.R_nil _ _ _ _ _ | exact Kd.N_nil _ _ _ _ _ | exact Kd.V_nil _ _ _ _ _ | exact Kd.Q_nil _ _ _ _ _ | exact Kd.S_nil _ _ _ _ _, zB⟩
  ·have c4b0 : decide (0 < t116) = false := decide_eq_false c4; clear c4; have H' := Aside0.mk H; clear H
   go_enter Tryd.func24, Tryd.ntmps24
   go_wp2_with (first | (go_at_call 30; (with_reducible refine (fold_cut.calls k a0 t115 t116 _ zG A3.out).mono ?_); rintro e w6 ⟨v117, rfl, ho0, hb⟩; replace HO118 := Aside0.mk (Kd.R_lower ho0 (below_size zB)); replace HB := zw hb; (try clear hb); (try clear ho0); obtain ⟨Ao7, co7, eo7⟩ := Kd.R_slice HO118.out; subst eo7))
   repeat (go_quiet (first | (go_at_call 30; (with_reducible refine (fold_cut.calls k a0 t115 t116 _ zG A3.out).mono ?_); rintro e w6 ⟨v117, rfl, ho0, hb⟩; replace HO118 := Aside0.mk (Kd.R_lower ho0 (below_size zB)); replace HB := zw hb; (try clear hb); (try clear ho0); obtain ⟨Ao7, co7, eo7⟩ := Kd.R_slice HO118.out; subst eo7)); try go_wp2_with (first | (go_at_call 30; (with_reducible refine (fold_cut.calls k a0 t115 t116 _ zG A3.out).mono ?_); rintro e w6 ⟨v117, rfl, ho0, hb⟩; replace HO118 := Aside0.mk (Kd.R_lower ho0 (below_size zB)); replace HB := zw hb; (try clear hb); (try clear ho0); obtain ⟨Ao7, co7, eo7⟩ := Kd.R_slice HO118.out; subst eo7)))
   go_loopg [7, 23] k (fun kq v7 v23 w' => ∃ (x7_1 : List ByteArray) (x23_1 : Int), v23 = .int .i64 x23_1 ∧ Aside0 (fold_Unfold.l0 kq x7_1 t115 (t115.length : Int) x23_1 = some (r1, r2, r3)) ∧ Aside0 (kq ≤ k) ∧ Aside0 (Kd.R Kd.string 9 w' w.heap.size (fun _ => True) v7 x7_1) ∧ Aside0 (Kd.R k78 78 w' w.heap.size (fun _ => True) (.slice Ao7 t115.length co7) t115) ∧ Aside0 (Below w.heap.size w w'))
   case atStart => exact ⟨(([] : List ByteArray)), (0), zS, H', ⟨Nat.le_refl _⟩, ⟨by first | exact Kd.R_nil _ _ _ _ _ | exact Kd.N_nil _ _ _ _ _ | exact Kd.V_nil _ _ _ _ _ | exact Kd.Q_nil _ _ _ _ _ | exact Kd.S_nil _ _ _ _ _⟩, ⟨Kd.R_below HO118.out zX⟩, ⟨zB⟩⟩
   case round =>
    clear H'; clear c2b0 c2b1 c4b0; obtain ⟨x7_1, x23_1, rfl, HA, HK1, HO_7, HO_21, HB⟩ := hrel
    cases gk with
    | zero => exact absurd HA.out (by simp [fold_Unfold.l0])
    | succ k1 =>
     have H := HA.out; clear HA; simp only [fold_Unfold.l0] at H; replace H := zId H; rcases H with ⟨-, c8b0, H⟩ | ⟨-, c8b0, H⟩
     ·replace H := zJd H; obtain ⟨-, c9b0, H⟩ := H; replace H := zJd H; obtain ⟨-, c10b0, H⟩ := H; replace H := Option.bind_eq_some_iff.mp H; obtain ⟨t121, A110, H⟩ := H; replace H : (if t121 = true then (if (((rd_T78 t115 x23_1).f0).size : Int) > 2000 then (some (([] : List ByteArray), (rd_T78 t115 x23_1).f1, 4)) else (if x7_1.length < 8796093022208 then (fold_Unfold.l0 k1 (x7_1 ++ [(rd_T78 t115 x23_1).f0]) t115 (t115.length : Int) (wrap64 (x23_1 + 1))) else (none))) else (some (([] : List ByteArray), (rd_T78 t115 x23_1).f1, 3))) = some (r1, r2, r3) := H; have A11 := Aside0.mk A110; clear A110; replace H := zIb H; rcases H with ⟨rfl, H⟩ | ⟨rfl, H⟩
      ·replace H := zI H; rcases H with ⟨c13, H⟩ | ⟨c13, H⟩
       ·have c13b0 : decide (2000 < (((rd_T78 t115 x23_1).f0).size : Int)) = true := decide_eq_true c13; have c13b1 : decide (2000 < ((rd_T78 t115 x23_1).f0).size) = true := decide_eq_true (by omega); clear c13; simp only [Option.some.injEq, Prod.mk.injEq] at H; obtain ⟨rfl, rfl, rfl⟩ := H; have p119 := zQ (0 ≤ (x23_1 : Int)); have q119 := zQ (x23_1 < (t115.length : Int)); obtain ⟨ad119, e119, hx119_0, hx119_1⟩ := at_T78 (Kd.R_reads' HO_21.out).2.2 x23_1 p119 q119
        cases e119
        replace p119 := eq_true p119; replace q119 := eq_true q119
        go_wp2_with (first | ((with_reducible refine gate_dst (N := 9) rfl ?_); refine zbox (N := 9) #[.string (⟨#[]⟩ : ByteArray), .int .i64 0] 78 (fun gb120 hg w14 hbox hb => ?_); have n0_ := Aside0.mk (Kd.R_below (Kd.R_below HO_7.out zX) hb); have n1_ := Aside0.mk (Kd.R_below (Kd.R_elderB (Kd.R_below HO_21.out zX) gb120 (Nat.le_of_eq hg.symm)) hb); have n2_ := zw hb; have n3_ := Aside0.mk hbox; have n4_ := zg w hg; have n5_ := zg w hg; clear HO_7; clear HO_21; clear HB; have HO_7 := n0_; have HO_21 := n1_; have HB := n2_; have BK120 := n3_; have GW120 := n4_; have GE120 := n5_; clear n0_ n1_ n2_ n3_ n4_ n5_; clear hb hbox hg; have hcz15_0 := zc0 BK120; have hcz15_1 := zc1 BK120; have hfz15_0 := zf BK120 0; have hfz15_1 := zf BK120 1) | (go_at_call 31; (with_reducible refine (utf8_ValidString.calls ((rd_T78 t115 x23_1).f0) true _ zG A11.out).mono ?_); rintro e w16 ⟨rfl, hb⟩; replace HO_7 := Aside0.mk (Kd.R_below (by (with_reducible repeat (first | apply Kd.R_alloc | apply Kd.R_drewN | apply Kd.R_drew)); exact (Kd.R_mono (Kd.R_far (p := ⟨gb120, 1, none⟩) (Kd.R_far (p := ⟨gb120, 0, none⟩) (Kd.R_types HO_7.out BK120.out (by decide)) (fun _ hk => hk.2) (.string ((rd_T78 t115 x23_1).f0))) (fun _ hk => hk.2) (.int .i64 ((rd_T78 t115 x23_1).f1))) (fun _ h_ => h_.1))) hb); replace HO_21 := Aside0.mk (Kd.R_below (by (with_reducible repeat (first | apply Kd.R_alloc | apply Kd.R_drewN | apply Kd.R_drew)); exact (Kd.R_mono (Kd.R_far (p := ⟨gb120, 1, none⟩) (Kd.R_far (p := ⟨gb120, 0, none⟩) (Kd.R_mono HO_21.out (fun k_ hk => (⟨hk, hk.2⟩ : _ ∧ k_ ≠ gb120))) (fun _ hk => hk.2) (.string ((rd_T78 t115 x23_1).f0))) (fun _ hk => hk.2) (.int .i64 ((rd_T78 t115 x23_1).f1))) (fun _ h_ => h_.1))) hb); replace BK120 := Aside0.mk (blk_below (g := gb120) (o := .cells #[.string ((rd_T78 t115 x23_1).f0), .int .i64 ((rd_T78 t115 x23_1).f1)] 78 (0, 0)) (by (with_reducible repeat (first | refine blk_drewN ?_ _ | refine blk_drew ?_ | refine blk_alloc ?_ _)); refine blk_put (cs := #[.string ((rd_T78 t115 x23_1).f0), .int .i64 0]) ?_ 1 _ rfl; (with_reducible repeat (first | refine blk_drewN ?_ _ | refine blk_drew ?_ | refine blk_alloc ?_ _)); refine blk_put (cs := #[.string (⟨#[]⟩ : ByteArray), .int .i64 0]) ?_ 0 _ rfl; (with_reducible repeat (first | refine blk_drewN ?_ _ | refine blk_drew ?_ | refine blk_alloc ?_ _)); exact BK120.out) hb); replace HB := zw hb; (try clear hb); have hcz17_0 : w16.cell? ⟨gb120, 0, none⟩ = some (.string ((rd_T78 t115 x23_1).f0)) := (blk_cell BK120.out 0).trans rfl; have hcz17_1 : w16.cell? ⟨gb120, 1, none⟩ = some (.int .i64 ((rd_T78 t115 x23_1).f1)) := (blk_cell BK120.out 1).trans rfl; have hfz17_0 := zf BK120 0; have hfz17_1 := zf BK120 1))
        repeat (go_quiet (first | ((with_reducible refine gate_dst (N := 9) rfl ?_); refine zbox (N := 9) #[.string (⟨#[]⟩ : ByteArray), .int .i64 0] 78 (fun gb120 hg w14 hbox hb => ?_); have n0_ := Aside0.mk (Kd.R_below (Kd.R_below HO_7.out zX) hb); have n1_ := Aside0.mk (Kd.R_below (Kd.R_elderB (Kd.R_below HO_21.out zX) gb120 (Nat.le_of_eq hg.symm)) hb); have n2_ := zw hb; have n3_ := Aside0.mk hbox; have n4_ := zg w hg; have n5_ := zg w hg; clear HO_7; clear HO_21; clear HB; have HO_7 := n0_; have HO_21 := n1_; have HB := n2_; have BK120 := n3_; have GW120 := n4_; have GE120 := n5_; clear n0_ n1_ n2_ n3_ n4_ n5_; clear hb hbox hg; have hcz15_0 := zc0 BK120; have hcz15_1 := zc1 BK120; have hfz15_0 := zf BK120 0; have hfz15_1 := zf BK120 1) | (go_at_call 31; (with_reducible refine (utf8_ValidString.calls ((rd_T78 t115 x23_1).f0) true _ zG A11.out).mono ?_); rintro e w16 ⟨rfl, hb⟩; replace HO_7 := Aside0.mk (Kd.R_below (by (with_reducible repeat (first | apply Kd.R_alloc | apply Kd.R_drewN | apply Kd.R_drew)); exact (Kd.R_mono (Kd.R_far (p := ⟨gb120, 1, none⟩) (Kd.R_far (p := ⟨gb120, 0, none⟩) (Kd.R_types HO_7.out BK120.out (by decide)) (fun _ hk => hk.2) (.string ((rd_T78 t115 x23_1).f0))) (fun _ hk => hk.2) (.int .i64 ((rd_T78 t115 x23_1).f1))) (fun _ h_ => h_.1))) hb); replace HO_21 := Aside0.mk (Kd.R_below (by (with_reducible repeat (first | apply Kd.R_alloc | apply Kd.R_drewN | apply Kd.R_drew)); exact (Kd.R_mono (Kd.R_far (p := ⟨gb120, 1, none⟩) (Kd.R_far (p := ⟨gb120, 0, none⟩) (Kd.R_mono HO_21.out (fun k_ hk => (⟨hk, hk.2⟩ : _ ∧ k_ ≠ gb120))) (fun _ hk => hk.2) (.string ((rd_T78 t115 x23_1).f0))) (fun _ hk => hk.2) (.int .i64 ((rd_T78 t115 x23_1).f1))) (fun _ h_ => h_.1))) hb); replace BK120 := Aside0.mk (blk_below (g := gb120) (o := .cells #[.string ((rd_T78 t115 x23_1).f0), .int .i64 ((rd_T78 t115 x23_1).f1)] 78 (0, 0)) (by (with_reducible repeat (first | refine blk_drewN ?_ _ | refine blk_drew ?_ | refine blk_alloc ?_ _)); refine blk_put (cs := #[.string ((rd_T78 t115 x23_1).f0), .int .i64 0]) ?_ 1 _ rfl; (with_reducible repeat (first | refine blk_drewN ?_ _ | refine blk_drew ?_ | refine blk_alloc ?_ _)); refine blk_put (cs := #[.string (⟨#[]⟩ : ByteArray), .int .i64 0]) ?_ 0 _ rfl; (with_reducible repeat (first | refine blk_drewN ?_ _ | refine blk_drew ?_ | refine blk_alloc ?_ _)); exact BK120.out) hb); replace HB := zw hb; (try clear hb); have hcz17_0 : w16.cell? ⟨gb120, 0, none⟩ = some (.string ((rd_T78 t115 x23_1).f0)) := (blk_cell BK120.out 0).trans rfl; have hcz17_1 : w16.cell? ⟨gb120, 1, none⟩ = some (.int .i64 ((rd_T78 t115 x23_1).f1)) := (blk_cell BK120.out 1).trans rfl; have hfz17_0 := zf BK120 0; have hfz17_1 := zf BK120 1)); try go_wp2_with (first | ((with_reducible refine gate_dst (N := 9) rfl ?_); refine zbox (N := 9) #[.string (⟨#[]⟩ : ByteArray), .int .i64 0] 78 (fun gb120 hg w14 hbox hb => ?_); have n0_ := Aside0.mk (Kd.R_below (Kd.R_below HO_7.out zX) hb); have n1_ := Aside0.mk (Kd.R_below (Kd.R_elderB (Kd.R_below HO_21.out zX) gb120 (Nat.le_of_eq hg.symm)) hb); have n2_ := zw hb; have n3_ := Aside0.mk hbox; have n4_ := zg w hg; have n5_ := zg w hg; clear HO_7; clear HO_21; clear HB; have HO_7 := n0_; have HO_21 := n1_; have HB := n2_; have BK120 := n3_; have GW120 := n4_; have GE120 := n5_; clear n0_ n1_ n2_ n3_ n4_ n5_; clear hb hbox hg; have hcz15_0 := zc0 BK120; have hcz15_1 := zc1 BK120; have hfz15_0 := zf BK120 0; have hfz15_1 := zf BK120 1) | (go_at_call 31; (with_reducible refine (utf8_ValidString.calls ((rd_T78 t115 x23_1).f0) true _ zG A11.out).mono ?_); rintro e w16 ⟨rfl, hb⟩; replace HO_7 := Aside0.mk (Kd.R_below (by (with_reducible repeat (first | apply Kd.R_alloc | apply Kd.R_drewN | apply Kd.R_drew)); exact (Kd.R_mono (Kd.R_far (p := ⟨gb120, 1, none⟩) (Kd.R_far (p := ⟨gb120, 0, none⟩) (Kd.R_types HO_7.out BK120.out (by decide)) (fun _ hk => hk.2) (.string ((rd_T78 t115 x23_1).f0))) (fun _ hk => hk.2) (.int .i64 ((rd_T78 t115 x23_1).f1))) (fun _ h_ => h_.1))) hb); replace HO_21 := Aside0.mk (Kd.R_below (by (with_reducible repeat (first | apply Kd.R_alloc | apply Kd.R_drewN | apply Kd.R_drew)); exact (Kd.R_mono (Kd.R_far (p := ⟨gb120, 1, none⟩) (Kd.R_far (p := ⟨gb120, 0, none⟩) (Kd.R_mono HO_21.out (fun k_ hk => (⟨hk, hk.2⟩ : _ ∧ k_ ≠ gb120))) (fun _ hk => hk.2) (.string ((rd_T78 t115 x23_1).f0))) (fun _ hk => hk.2) (.int .i64 ((rd_T78 t115 x23_1).f1))) (fun _ h_ => h_.1))) hb); replace BK120 := Aside0.mk (blk_below (g := gb120) (o := .cells #[.string ((rd_T78 t115 x23_1).f0), .int .i64 ((rd_T78 t115 x23_1).f1)] 78 (0, 0)) (by (with_reducible repeat (first | refine blk_drewN ?_ _ | refine blk_drew ?_ | refine blk_alloc ?_ _)); refine blk_put (cs := #[.string ((rd_T78 t115 x23_1).f0), .int .i64 0]) ?_ 1 _ rfl; (with_reducible repeat (first | refine blk_drewN ?_ _ | refine blk_drew ?_ | refine blk_alloc ?_ _)); refine blk_put (cs := #[.string (⟨#[]⟩ : ByteArray), .int .i64 0]) ?_ 0 _ rfl; (with_reducible repeat (first | refine blk_drewN ?_ _ | refine blk_drew ?_ | refine blk_alloc ?_ _)); exact BK120.out) hb); replace HB := zw hb; (try clear hb); have hcz17_0 : w16.cell? ⟨gb120, 0, none⟩ = some (.string ((rd_T78 t115 x23_1).f0)) := (blk_cell BK120.out 0).trans rfl; have hcz17_1 : w16.cell? ⟨gb120, 1, none⟩ = some (.int .i64 ((rd_T78 t115 x23_1).f1)) := (blk_cell BK120.out 1).trans rfl; have hfz17_0 := zf BK120 0; have hfz17_1 := zf BK120 1)))
        go_ret3
        exact ⟨_, zE, by first | exact Kd.R_nil _ _ _ _ _ | exact Kd.N_nil _ _ _ _ _ | exact Kd.V_nil _ _ _ _ _ | exact Kd.Q_nil _ _ _ _ _ | exact Kd.S_nil _ _ _ _ _, zB⟩
       ·have c13b0 : decide (2000 < (((rd_T78 t115 x23_1).f0).size : Int)) = false := decide_eq_false c13; have c13b1 : decide (2000 < ((rd_T78 t115 x23_1).f0).size) = false := decide_eq_false (by omega); clear c13; replace H := zJ H; obtain ⟨c18, H⟩ := H; have LMc18 := Aside0.mk c18; clear c18; obtain ⟨y122, hy122⟩ : ∃ y_ : List ByteArray, y_ = (x7_1 ++ [(rd_T78 t115 x23_1).f0]) := ⟨_, rfl⟩; replace H : (fold_Unfold.l0 k1 y122 t115 (t115.length : Int) (wrap64 (x23_1 + 1))) = some (r1, r2, r3) := by first | (rw [hy122]; with_reducible exact H) | (have H2_ := (Option.bind_some _ _).symm.trans H; rw [hy122]; with_reducible exact H2_) | (have H2_ := (Option.bind_some _ _).symm.trans H; with_reducible exact H2_) | with_reducible exact H | (rw [hy122]; exact H) | exact H
        have Ny122 := Aside0.mk hy122; clear hy122; have H' := Aside0.mk H; clear H; have p119 := zQ (0 ≤ (x23_1 : Int)); have q119 := zQ (x23_1 < (t115.length : Int)); obtain ⟨ad119, e119, hx119_0, hx119_1⟩ := at_T78 (Kd.R_reads' HO_21.out).2.2 x23_1 p119 q119
        cases e119
        replace p119 := eq_true p119; replace q119 := eq_true q119
        go_wp2_with (first | ((with_reducible refine gate_dst (N := 9) rfl ?_); refine zbox (N := 9) #[.string (⟨#[]⟩ : ByteArray), .int .i64 0] 78 (fun gb120 hg w19 hbox hb => ?_); have n0_ := Aside0.mk (Kd.R_below (Kd.R_below HO_7.out zX) hb); have n1_ := Aside0.mk (Kd.R_below (Kd.R_elderB (Kd.R_below HO_21.out zX) gb120 (Nat.le_of_eq hg.symm)) hb); have n2_ := zw hb; have n3_ := Aside0.mk hbox; have n4_ := zg w hg; have n5_ := zg w hg; clear HO_7; clear HO_21; clear HB; have HO_7 := n0_; have HO_21 := n1_; have HB := n2_; have BK120 := n3_; have GW120 := n4_; have GE120 := n5_; clear n0_ n1_ n2_ n3_ n4_ n5_; clear hb hbox hg; have hcz20_0 := zc0 BK120; have hcz20_1 := zc1 BK120; have hfz20_0 := zf BK120 0; have hfz20_1 := zf BK120 1) | (go_at_call 31; (with_reducible refine (utf8_ValidString.calls ((rd_T78 t115 x23_1).f0) true _ zG A11.out).mono ?_); rintro e w21 ⟨rfl, hb⟩; replace HO_7 := Aside0.mk (Kd.R_below (by (with_reducible repeat (first | apply Kd.R_alloc | apply Kd.R_drewN | apply Kd.R_drew)); exact (Kd.R_mono (Kd.R_far (p := ⟨gb120, 1, none⟩) (Kd.R_far (p := ⟨gb120, 0, none⟩) (Kd.R_types HO_7.out BK120.out (by decide)) (fun _ hk => hk.2) (.string ((rd_T78 t115 x23_1).f0))) (fun _ hk => hk.2) (.int .i64 ((rd_T78 t115 x23_1).f1))) (fun _ h_ => h_.1))) hb); replace HO_21 := Aside0.mk (Kd.R_below (by (with_reducible repeat (first | apply Kd.R_alloc | apply Kd.R_drewN | apply Kd.R_drew)); exact (Kd.R_mono (Kd.R_far (p := ⟨gb120, 1, none⟩) (Kd.R_far (p := ⟨gb120, 0, none⟩) (Kd.R_mono HO_21.out (fun k_ hk => (⟨hk, hk.2⟩ : _ ∧ k_ ≠ gb120))) (fun _ hk => hk.2) (.string ((rd_T78 t115 x23_1).f0))) (fun _ hk => hk.2) (.int .i64 ((rd_T78 t115 x23_1).f1))) (fun _ h_ => h_.1))) hb); replace BK120 := Aside0.mk (blk_below (g := gb120) (o := .cells #[.string ((rd_T78 t115 x23_1).f0), .int .i64 ((rd_T78 t115 x23_1).f1)] 78 (0, 0)) (by (with_reducible repeat (first | refine blk_drewN ?_ _ | refine blk_drew ?_ | refine blk_alloc ?_ _)); refine blk_put (cs := #[.string ((rd_T78 t115 x23_1).f0), .int .i64 0]) ?_ 1 _ rfl; (with_reducible repeat (first | refine blk_drewN ?_ _ | refine blk_drew ?_ | refine blk_alloc ?_ _)); refine blk_put (cs := #[.string (⟨#[]⟩ : ByteArray), .int .i64 0]) ?_ 0 _ rfl; (with_reducible repeat (first | refine blk_drewN ?_ _ | refine blk_drew ?_ | refine blk_alloc ?_ _)); exact BK120.out) hb); replace HB := zw hb; (try clear hb); have hcz22_0 : w21.cell? ⟨gb120, 0, none⟩ = some (.string ((rd_T78 t115 x23_1).f0)) := (blk_cell BK120.out 0).trans rfl; have hcz22_1 : w21.cell? ⟨gb120, 1, none⟩ = some (.int .i64 ((rd_T78 t115 x23_1).f1)) := (blk_cell BK120.out 1).trans rfl; have hfz22_0 := zf BK120 0; have hfz22_1 := zf BK120 1) | ((with_reducible refine gate_builtin (b := .append) (xs := #[.tmp 41, .tmp 44]) rfl ?_); at_builtin; refine Kd.R_append Kd.string (w0 := w) w.heap.size rfl (.tmp 41) (.tmp 44) 57 9 (.string ⟨#[]⟩) 16 rfl Tryd.underlying57 info9 rfl (by decide) (by omega) u7 x7_1 ((rd_T78 t115 x23_1).f0) [.string ((rd_T78 t115 x23_1).f0)] (fun _ => True) (fun _ => False) rfl rfl ?aP (fun _ hk => hk.elim) ?aF ?aO ?aB ?aS ?aL ?_; (case aP => exact rfl); (case aB => exact zB); (case aF => exact (fun _ _ => trivial)); (case aO => exact (Kd.R_below HO_7.out zX)); (case aS => exact (below_size zB)); (case aL => have := LMc18.out; omega); intro v123 w23 ho hb hg hat; rw [← Ny122.out] at ho; have n0_ := Aside0.mk (Kd.R_over' (Kd.R_below HO_21.out zX) (Kd.R_typed (Kd.R_below HO_7.out zX)) (by decide) hg); have n1_ := Aside0.mk (blk_grown (g := gb120) (o := .cells #[.string ((rd_T78 t115 x23_1).f0), .int .i64 ((rd_T78 t115 x23_1).f1)] 78 (0, 0)) (blk_below BK120.out zX) hg (Kd.R_ne HO_7.out BK120.out (by decide))); have n2_ := Aside0.mk (hb); have n3_ := Aside0.mk (ho); clear HO_21; clear BK120; clear HB; clear HO_7; have HO_21 := n0_; have BK120 := n1_; have HB := n2_; have HO124 := n3_; clear n0_ n1_ n2_ n3_; clear ho hb hg hat))
        repeat (go_quiet (first | ((with_reducible refine gate_dst (N := 9) rfl ?_); refine zbox (N := 9) #[.string (⟨#[]⟩ : ByteArray), .int .i64 0] 78 (fun gb120 hg w19 hbox hb => ?_); have n0_ := Aside0.mk (Kd.R_below (Kd.R_below HO_7.out zX) hb); have n1_ := Aside0.mk (Kd.R_below (Kd.R_elderB (Kd.R_below HO_21.out zX) gb120 (Nat.le_of_eq hg.symm)) hb); have n2_ := zw hb; have n3_ := Aside0.mk hbox; have n4_ := zg w hg; have n5_ := zg w hg; clear HO_7; clear HO_21; clear HB; have HO_7 := n0_; have HO_21 := n1_; have HB := n2_; have BK120 := n3_; have GW120 := n4_; have GE120 := n5_; clear n0_ n1_ n2_ n3_ n4_ n5_; clear hb hbox hg; have hcz20_0 := zc0 BK120; have hcz20_1 := zc1 BK120; have hfz20_0 := zf BK120 0; have hfz20_1 := zf BK120 1) | (go_at_call 31; (with_reducible refine (utf8_ValidString.calls ((rd_T78 t115 x23_1).f0) true _ zG A11.out).mono ?_); rintro e w21 ⟨rfl, hb⟩; replace HO_7 := Aside0.mk (Kd.R_below (by (with_reducible repeat (first | apply Kd.R_alloc | apply Kd.R_drewN | apply Kd.R_drew)); exact (Kd.R_mono (Kd.R_far (p := ⟨gb120, 1, none⟩) (Kd.R_far (p := ⟨gb120, 0, none⟩) (Kd.R_types HO_7.out BK120.out (by decide)) (fun _ hk => hk.2) (.string ((rd_T78 t115 x23_1).f0))) (fun _ hk => hk.2) (.int .i64 ((rd_T78 t115 x23_1).f1))) (fun _ h_ => h_.1))) hb); replace HO_21 := Aside0.mk (Kd.R_below (by (with_reducible repeat (first | apply Kd.R_alloc | apply Kd.R_drewN | apply Kd.R_drew)); exact (Kd.R_mono (Kd.R_far (p := ⟨gb120, 1, none⟩) (Kd.R_far (p := ⟨gb120, 0, none⟩) (Kd.R_mono HO_21.out (fun k_ hk => (⟨hk, hk.2⟩ : _ ∧ k_ ≠ gb120))) (fun _ hk => hk.2) (.string ((rd_T78 t115 x23_1).f0))) (fun _ hk => hk.2) (.int .i64 ((rd_T78 t115 x23_1).f1))) (fun _ h_ => h_.1))) hb); replace BK120 := Aside0.mk (blk_below (g := gb120) (o := .cells #[.string ((rd_T78 t115 x23_1).f0), .int .i64 ((rd_T78 t115 x23_1).f1)] 78 (0, 0)) (by (with_reducible repeat (first | refine blk_drewN ?_ _ | refine blk_drew ?_ | refine blk_alloc ?_ _)); refine blk_put (cs := #[.string ((rd_T78 t115 x23_1).f0), .int .i64 0]) ?_ 1 _ rfl; (with_reducible repeat (first | refine blk_drewN ?_ _ | refine blk_drew ?_ | refine blk_alloc ?_ _)); refine blk_put (cs := #[.string (⟨#[]⟩ : ByteArray), .int .i64 0]) ?_ 0 _ rfl; (with_reducible repeat (first | refine blk_drewN ?_ _ | refine blk_drew ?_ | refine blk_alloc ?_ _)); exact BK120.out) hb); replace HB := zw hb; (try clear hb); have hcz22_0 : w21.cell? ⟨gb120, 0, none⟩ = some (.string ((rd_T78 t115 x23_1).f0)) := (blk_cell BK120.out 0).trans rfl; have hcz22_1 : w21.cell? ⟨gb120, 1, none⟩ = some (.int .i64 ((rd_T78 t115 x23_1).f1)) := (blk_cell BK120.out 1).trans rfl; have hfz22_0 := zf BK120 0; have hfz22_1 := zf BK120 1) | ((with_reducible refine gate_builtin (b := .append) (xs := #[.tmp 41, .tmp 44]) rfl ?_); at_builtin; refine Kd.R_append Kd.string (w0 := w) w.heap.size rfl (.tmp 41) (.tmp 44) 57 9 (.string ⟨#[]⟩) 16 rfl Tryd.underlying57 info9 rfl (by decide) (by omega) u7 x7_1 ((rd_T78 t115 x23_1).f0) [.string ((rd_T78 t115 x23_1).f0)] (fun _ => True) (fun _ => False) rfl rfl ?aP (fun _ hk => hk.elim) ?aF ?aO ?aB ?aS ?aL ?_; (case aP => exact rfl); (case aB => exact zB); (case aF => exact (fun _ _ => trivial)); (case aO => exact (Kd.R_below HO_7.out zX)); (case aS => exact (below_size zB)); (case aL => have := LMc18.out; omega); intro v123 w23 ho hb hg hat; rw [← Ny122.out] at ho; have n0_ := Aside0.mk (Kd.R_over' (Kd.R_below HO_21.out zX) (Kd.R_typed (Kd.R_below HO_7.out zX)) (by decide) hg); have n1_ := Aside0.mk (blk_grown (g := gb120) (o := .cells #[.string ((rd_T78 t115 x23_1).f0), .int .i64 ((rd_T78 t115 x23_1).f1)] 78 (0, 0)) (blk_below BK120.out zX) hg (Kd.R_ne HO_7.out BK120.out (by decide))); have n2_ := Aside0.mk (hb); have n3_ := Aside0.mk (ho); clear HO_21; clear BK120; clear HB; clear HO_7; have HO_21 := n0_; have BK120 := n1_; have HB := n2_; have HO124 := n3_; clear n0_ n1_ n2_ n3_; clear ho hb hg hat)); try go_wp2_with (first | ((with_reducible refine gate_dst (N := 9) rfl ?_); refine zbox (N := 9) #[.string (⟨#[]⟩ : ByteArray), .int .i64 0] 78 (fun gb120 hg w19 hbox hb => ?_); have n0_ := Aside0.mk (Kd.R_below (Kd.R_below HO_7.out zX) hb); have n1_ := Aside0.mk (Kd.R_below (Kd.R_elderB (Kd.R_below HO_21.out zX) gb120 (Nat.le_of_eq hg.symm)) hb); have n2_ := zw hb; have n3_ := Aside0.mk hbox; have n4_ := zg w hg; have n5_ := zg w hg; clear HO_7; clear HO_21; clear HB; have HO_7 := n0_; have HO_21 := n1_; have HB := n2_; have BK120 := n3_; have GW120 := n4_; have GE120 := n5_; clear n0_ n1_ n2_ n3_ n4_ n5_; clear hb hbox hg; have hcz20_0 := zc0 BK120; have hcz20_1 := zc1 BK120; have hfz20_0 := zf BK120 0; have hfz20_1 := zf BK120 1) | (go_at_call 31; (with_reducible refine (utf8_ValidString.calls ((rd_T78 t115 x23_1).f0) true _ zG A11.out).mono ?_); rintro e w21 ⟨rfl, hb⟩; replace HO_7 := Aside0.mk (Kd.R_below (by (with_reducible repeat (first | apply Kd.R_alloc | apply Kd.R_drewN | apply Kd.R_drew)); exact (Kd.R_mono (Kd.R_far (p := ⟨gb120, 1, none⟩) (Kd.R_far (p := ⟨gb120, 0, none⟩) (Kd.R_types HO_7.out BK120.out (by decide)) (fun _ hk => hk.2) (.string ((rd_T78 t115 x23_1).f0))) (fun _ hk => hk.2) (.int .i64 ((rd_T78 t115 x23_1).f1))) (fun _ h_ => h_.1))) hb); replace HO_21 := Aside0.mk (Kd.R_below (by (with_reducible repeat (first | apply Kd.R_alloc | apply Kd.R_drewN | apply Kd.R_drew)); exact (Kd.R_mono (Kd.R_far (p := ⟨gb120, 1, none⟩) (Kd.R_far (p := ⟨gb120, 0, none⟩) (Kd.R_mono HO_21.out (fun k_ hk => (⟨hk, hk.2⟩ : _ ∧ k_ ≠ gb120))) (fun _ hk => hk.2) (.string ((rd_T78 t115 x23_1).f0))) (fun _ hk => hk.2) (.int .i64 ((rd_T78 t115 x23_1).f1))) (fun _ h_ => h_.1))) hb); replace BK120 := Aside0.mk (blk_below (g := gb120) (o := .cells #[.string ((rd_T78 t115 x23_1).f0), .int .i64 ((rd_T78 t115 x23_1).f1)] 78 (0, 0)) (by (with_reducible repeat (first | refine blk_drewN ?_ _ | refine blk_drew ?_ | refine blk_alloc ?_ _)); refine blk_put (cs := #[.string ((rd_T78 t115 x23_1).f0), .int .i64 0]) ?_ 1 _ rfl; (with_reducible repeat (first | refine blk_drewN ?_ _ | refine blk_drew ?_ | refine blk_alloc ?_ _)); refine blk_put (cs := #[.string (⟨#[]⟩ : ByteArray), .int .i64 0]) ?_ 0 _ rfl; (with_reducible repeat (first | refine blk_drewN ?_ _ | refine blk_drew ?_ | refine blk_alloc ?_ _)); exact BK120.out) hb); replace HB := zw hb; (try clear hb); have hcz22_0 : w21.cell? ⟨gb120, 0, none⟩ = some (.string ((rd_T78 t115 x23_1).f0)) := (blk_cell BK120.out 0).trans rfl; have hcz22_1 : w21.cell? ⟨gb120, 1, none⟩ = some (.int .i64 ((rd_T78 t115 x23_1).f1)) := (blk_cell BK120.out 1).trans rfl; have hfz22_0 := zf BK120 0; have hfz22_1 := zf BK120 1) | ((with_reducible refine gate_builtin (b := .append) (xs := #[.tmp 41, .tmp 44]) rfl ?_); at_builtin; refine Kd.R_append Kd.string (w0 := w) w.heap.size rfl (.tmp 41) (.tmp 44) 57 9 (.string ⟨#[]⟩) 16 rfl Tryd.underlying57 info9 rfl (by decide) (by omega) u7 x7_1 ((rd_T78 t115 x23_1).f0) [.string ((rd_T78 t115 x23_1).f0)] (fun _ => True) (fun _ => False) rfl rfl ?aP (fun _ hk => hk.elim) ?aF ?aO ?aB ?aS ?aL ?_; (case aP => exact rfl); (case aB => exact zB); (case aF => exact (fun _ _ => trivial)); (case aO => exact (Kd.R_below HO_7.out zX)); (case aS => exact (below_size zB)); (case aL => have := LMc18.out; omega); intro v123 w23 ho hb hg hat; rw [← Ny122.out] at ho; have n0_ := Aside0.mk (Kd.R_over' (Kd.R_below HO_21.out zX) (Kd.R_typed (Kd.R_below HO_7.out zX)) (by decide) hg); have n1_ := Aside0.mk (blk_grown (g := gb120) (o := .cells #[.string ((rd_T78 t115 x23_1).f0), .int .i64 ((rd_T78 t115 x23_1).f1)] 78 (0, 0)) (blk_below BK120.out zX) hg (Kd.R_ne HO_7.out BK120.out (by decide))); have n2_ := Aside0.mk (hb); have n3_ := Aside0.mk (ho); clear HO_21; clear BK120; clear HB; clear HO_7; have HO_21 := n0_; have BK120 := n1_; have HB := n2_; have HO124 := n3_; clear n0_ n1_ n2_ n3_; clear ho hb hg hat)))
        go_roundg k1
        case measure => have := HK1.out; omega
        case rel => exact ⟨(y122), (wrap64 (x23_1 + 1)), zS, H', ⟨by have := HK1.out; omega⟩, ⟨Kd.R_below HO124.out zX⟩, ⟨by (with_reducible repeat (first | apply Kd.R_alloc | apply Kd.R_drewN | apply Kd.R_drew)); exact Kd.R_mono HO_21.out (fun _ hk => trivial)⟩, ⟨zB⟩⟩
      ·simp only [Option.some.injEq, Prod.mk.injEq] at H; obtain ⟨rfl, rfl, rfl⟩ := H; have p119 := zQ (0 ≤ (x23_1 : Int)); have q119 := zQ (x23_1 < (t115.length : Int)); obtain ⟨ad119, e119, hx119_0, hx119_1⟩ := at_T78 (Kd.R_reads' HO_21.out).2.2 x23_1 p119 q119
       cases e119
       replace p119 := eq_true p119; replace q119 := eq_true q119
       go_wp2_with (first | ((with_reducible refine gate_dst (N := 9) rfl ?_); refine zbox (N := 9) #[.string (⟨#[]⟩ : ByteArray), .int .i64 0] 78 (fun gb120 hg w24 hbox hb => ?_); have n0_ := Aside0.mk (Kd.R_below (Kd.R_below HO_7.out zX) hb); have n1_ := Aside0.mk (Kd.R_below (Kd.R_elderB (Kd.R_below HO_21.out zX) gb120 (Nat.le_of_eq hg.symm)) hb); have n2_ := zw hb; have n3_ := Aside0.mk hbox; have n4_ := zg w hg; have n5_ := zg w hg; clear HO_7; clear HO_21; clear HB; have HO_7 := n0_; have HO_21 := n1_; have HB := n2_; have BK120 := n3_; have GW120 := n4_; have GE120 := n5_; clear n0_ n1_ n2_ n3_ n4_ n5_; clear hb hbox hg; have hcz25_0 := zc0 BK120; have hcz25_1 := zc1 BK120; have hfz25_0 := zf BK120 0; have hfz25_1 := zf BK120 1) | (go_at_call 31; (with_reducible refine (utf8_ValidString.calls ((rd_T78 t115 x23_1).f0) false _ zG A11.out).mono ?_); rintro e w26 ⟨rfl, hb⟩; replace HO_7 := Aside0.mk (Kd.R_below (by (with_reducible repeat (first | apply Kd.R_alloc | apply Kd.R_drewN | apply Kd.R_drew)); exact (Kd.R_mono (Kd.R_far (p := ⟨gb120, 1, none⟩) (Kd.R_far (p := ⟨gb120, 0, none⟩) (Kd.R_types HO_7.out BK120.out (by decide)) (fun _ hk => hk.2) (.string ((rd_T78 t115 x23_1).f0))) (fun _ hk => hk.2) (.int .i64 ((rd_T78 t115 x23_1).f1))) (fun _ h_ => h_.1))) hb); replace HO_21 := Aside0.mk (Kd.R_below (by (with_reducible repeat (first | apply Kd.R_alloc | apply Kd.R_drewN | apply Kd.R_drew)); exact (Kd.R_mono (Kd.R_far (p := ⟨gb120, 1, none⟩) (Kd.R_far (p := ⟨gb120, 0, none⟩) (Kd.R_mono HO_21.out (fun k_ hk => (⟨hk, hk.2⟩ : _ ∧ k_ ≠ gb120))) (fun _ hk => hk.2) (.string ((rd_T78 t115 x23_1).f0))) (fun _ hk => hk.2) (.int .i64 ((rd_T78 t115 x23_1).f1))) (fun _ h_ => h_.1))) hb); replace BK120 := Aside0.mk (blk_below (g := gb120) (o := .cells #[.string ((rd_T78 t115 x23_1).f0), .int .i64 ((rd_T78 t115 x23_1).f1)] 78 (0, 0)) (by (with_reducible repeat (first | refine blk_drewN ?_ _ | refine blk_drew ?_ | refine blk_alloc ?_ _)); refine blk_put (cs := #[.string ((rd_T78 t115 x23_1).f0), .int .i64 0]) ?_ 1 _ rfl; (with_reducible repeat (first | refine blk_drewN ?_ _ | refine blk_drew ?_ | refine blk_alloc ?_ _)); refine blk_put (cs := #[.string (⟨#[]⟩ : ByteArray), .int .i64 0]) ?_ 0 _ rfl; (with_reducible repeat (first | refine blk_drewN ?_ _ | refine blk_drew ?_ | refine blk_alloc ?_ _)); exact BK120.out) hb); replace HB := zw hb; (try clear hb); have hcz27_0 : w26.cell? ⟨gb120, 0, none⟩ = some (.string ((rd_T78 t115 x23_1).f0)) := (blk_cell BK120.out 0).trans rfl; have hcz27_1 : w26.cell? ⟨gb120, 1, none⟩ = some (.int .i64 ((rd_T78 t115 x23_1).f1)) := (blk_cell BK120.out 1).trans rfl; have hfz27_0 := zf BK120 0; have hfz27_1 := zf BK120 1))
       repeat (go_quiet (first | ((with_reducible refine gate_dst (N := 9) rfl ?_); refine zbox (N := 9) #[.string (⟨#[]⟩ : ByteArray), .int .i64 0] 78 (fun gb120 hg w24 hbox hb => ?_); have n0_ := Aside0.mk (Kd.R_below (Kd.R_below HO_7.out zX) hb); have n1_ := Aside0.mk (Kd.R_below (Kd.R_elderB (Kd.R_below HO_21.out zX) gb120 (Nat.le_of_eq hg.symm)) hb); have n2_ := zw hb; have n3_ := Aside0.mk hbox; have n4_ := zg w hg; have n5_ := zg w hg; clear HO_7; clear HO_21; clear HB; have HO_7 := n0_; have HO_21 := n1_; have HB := n2_; have BK120 := n3_; have GW120 := n4_; have GE120 := n5_; clear n0_ n1_ n2_ n3_ n4_ n5_; clear hb hbox hg; have hcz25_0 := zc0 BK120; have hcz25_1 := zc1 BK120; have hfz25_0 := zf BK120 0; have hfz25_1 := zf BK120 1) | (go_at_call 31; (with_reducible refine (utf8_ValidString.calls ((rd_T78 t115 x23_1).f0) false _ zG A11.out).mono ?_); rintro e w26 ⟨rfl, hb⟩; replace HO_7 := Aside0.mk (Kd.R_below (by (with_reducible repeat (first | apply Kd.R_alloc | apply Kd.R_drewN | apply Kd.R_drew)); exact (Kd.R_mono (Kd.R_far (p := ⟨gb120, 1, none⟩) (Kd.R_far (p := ⟨gb120, 0, none⟩) (Kd.R_types HO_7.out BK120.out (by decide)) (fun _ hk => hk.2) (.string ((rd_T78 t115 x23_1).f0))) (fun _ hk => hk.2) (.int .i64 ((rd_T78 t115 x23_1).f1))) (fun _ h_ => h_.1))) hb); replace HO_21 := Aside0.mk (Kd.R_below (by (with_reducible repeat (first | apply Kd.R_alloc | apply Kd.R_drewN | apply Kd.R_drew)); exact (Kd.R_mono (Kd.R_far (p := ⟨gb120, 1, none⟩) (Kd.R_far (p := ⟨gb120, 0, none⟩) (Kd.R_mono HO_21.out (fun k_ hk => (⟨hk, hk.2⟩ : _ ∧ k_ ≠ gb120))) (fun _ hk => hk.2) (.string ((rd_T78 t115 x23_1).f0))) (fun _ hk => hk.2) (.int .i64 ((rd_T78 t115 x23_1).f1))) (fun _ h_ => h_.1))) hb); replace BK120 := Aside0.mk (blk_below (g := gb120) (o := .cells #[.string ((rd_T78 t115 x23_1).f0), .int .i64 ((rd_T78 t115 x23_1).f1)] 78 (0, 0)) (by (with_reducible repeat (first | refine blk_drewN ?_ _ | refine blk_drew ?_ | refine blk_alloc ?_ _)); refine blk_put (cs := #[.string ((rd_T78 t115 x23_1).f0), .int .i64 0]) ?_ 1 _ rfl; (with_reducible repeat (first | refine blk_drewN ?_ _ | refine blk_drew ?_ | refine blk_alloc ?_ _)); refine blk_put (cs := #[.string (⟨#[]⟩ : ByteArray), .int .i64 0]) ?_ 0 _ rfl; (with_reducible repeat (first | refine blk_drewN ?_ _ | refine blk_drew ?_ | refine blk_alloc ?_ _)); exact BK120.out) hb); replace HB := zw hb; (try clear hb); have hcz27_0 : w26.cell? ⟨gb120, 0, none⟩ = some (.string ((rd_T78 t115 x23_1).f0)) := (blk_cell BK120.out 0).trans rfl; have hcz27_1 : w26.cell? ⟨gb120, 1, none⟩ = some (.int .i64 ((rd_T78 t115 x23_1).f1)) := (blk_cell BK120.out 1).trans rfl; have hfz27_0 := zf BK120 0; have hfz27_1 := zf BK120 1)); try go_wp2_with (first | ((with_reducible refine gate_dst (N := 9) rfl ?_); refine zbox (N := 9) #[.string (⟨#[]⟩ : ByteArray), .int .i64 0] 78 (fun gb120 hg w24 hbox hb => ?_); have n0_ := Aside0.mk (Kd.R_below (Kd.R_below HO_7.out zX) hb); have n1_ := Aside0.mk (Kd.R_below (Kd.R_elderB (Kd.R_below HO_21.out zX) gb120 (Nat.le_of_eq hg.symm)) hb); have n2_ := zw hb; have n3_ := Aside0.mk hbox; have n4_ := zg w hg; have n5_ := zg w hg; clear HO_7; clear HO_21; clear HB; have HO_7 := n0_; have HO_21 := n1_; have HB := n2_; have BK120 := n3_; have GW120 := n4_; have GE120 := n5_; clear n0_ n1_ n2_ n3_ n4_ n5_; clear hb hbox hg; have hcz25_0 := zc0 BK120; have hcz25_1 := zc1 BK120; have hfz25_0 := zf BK120 0; have hfz25_1 := zf BK120 1) | (go_at_call 31; (with_reducible refine (utf8_ValidString.calls ((rd_T78 t115 x23_1).f0) false _ zG A11.out).mono ?_); rintro e w26 ⟨rfl, hb⟩; replace HO_7 := Aside0.mk (Kd.R_below (by (with_reducible repeat (first | apply Kd.R_alloc | apply Kd.R_drewN | apply Kd.R_drew)); exact (Kd.R_mono (Kd.R_far (p := ⟨gb120, 1, none⟩) (Kd.R_far (p := ⟨gb120, 0, none⟩) (Kd.R_types HO_7.out BK120.out (by decide)) (fun _ hk => hk.2) (.string ((rd_T78 t115 x23_1).f0))) (fun _ hk => hk.2) (.int .i64 ((rd_T78 t115 x23_1).f1))) (fun _ h_ => h_.1))) hb); replace HO_21 := Aside0.mk (Kd.R_below (by (with_reducible repeat (first | apply Kd.R_alloc | apply Kd.R_drewN | apply Kd.R_drew)); exact (Kd.R_mono (Kd.R_far (p := ⟨gb120, 1, none⟩) (Kd.R_far (p := ⟨gb120, 0, none⟩) (Kd.R_mono HO_21.out (fun k_ hk => (⟨hk, hk.2⟩ : _ ∧ k_ ≠ gb120))) (fun _ hk => hk.2) (.string ((rd_T78 t115 x23_1).f0))) (fun _ hk => hk.2) (.int .i64 ((rd_T78 t115 x23_1).f1))) (fun _ h_ => h_.1))) hb); replace BK120 := Aside0.mk (blk_below (g := gb120) (o := .cells #[.string ((rd_T78 t115 x23_1).f0), .int .i64 ((rd_T78 t115 x23_1).f1)] 78 (0, 0)) (by (with_reducible repeat (first | refine blk_drewN ?_ _ | refine blk_drew ?_ | refine blk_alloc ?_ _)); refine blk_put (cs := #[.string ((rd_T78 t115 x23_1).f0), .int .i64 0]) ?_ 1 _ rfl; (with_reducible repeat (first | refine blk_drewN ?_ _ | refine blk_drew ?_ | refine blk_alloc ?_ _)); refine blk_put (cs := #[.string (⟨#[]⟩ : ByteArray), .int .i64 0]) ?_ 0 _ rfl; (with_reducible repeat (first | refine blk_drewN ?_ _ | refine blk_drew ?_ | refine blk_alloc ?_ _)); exact BK120.out) hb); replace HB := zw hb; (try clear hb); have hcz27_0 : w26.cell? ⟨gb120, 0, none⟩ = some (.string ((rd_T78 t115 x23_1).f0)) := (blk_cell BK120.out 0).trans rfl; have hcz27_1 : w26.cell? ⟨gb120, 1, none⟩ = some (.int .i64 ((rd_T78 t115 x23_1).f1)) := (blk_cell BK120.out 1).trans rfl; have hfz27_0 := zf BK120 0; have hfz27_1 := zf BK120 1)))
       go_ret3
       exact ⟨_, zE, by first | exact Kd.R_nil _ _ _ _ _ | exact Kd.N_nil _ _ _ _ _ | exact Kd.V_nil _ _ _ _ _ | exact Kd.Q_nil _ _ _ _ _ | exact Kd.S_nil _ _ _ _ _, zB⟩
     ·simp only [Option.some.injEq, Prod.mk.injEq] at H; obtain ⟨rfl, rfl, rfl⟩ := H; go_wp2
      repeat (go_quiet (fail); try go_wp2)
      go_ret3
      exact ⟨_, zE, by (with_reducible repeat (first | apply Kd.R_alloc | apply Kd.R_drewN | apply Kd.R_drew)); exact HO_7.out, zB⟩
/-- A state of type 82 at block g of W; what its slices lead to came in by w0. -/
def IsS82 (w0 W : World) (g : Nat) (f0 : ByteArray) (f1 : Int) (f2 : Int) : Prop := W.heap[g]? = some (.cells #[.string f0, .int .i64 f1, .int .i64 f2] 82 (0, 0)) ∧ w0.heap.size ≤ g
theorem IsS82.grown {w0 W : World} {g : Nat} {f0 : ByteArray} {f1 : Int} {f2 : Int} {W1 : World} {row : Option Nat} (h : IsS82 w0 W g f0 f1 f2) (hw : W.grownBy W1 row) (hne : some g ≠ row) : IsS82 w0 W1 g f0 f1 f2 := by
 obtain ⟨hb, hg⟩ := h
 exact ⟨blk_grown hb hw hne, hg⟩
theorem IsS82.below {w0 W : World} {g : Nat} {f0 : ByteArray} {f1 : Int} {f2 : Int} {W1 : World} (h : IsS82 w0 W g f0 f1 f2) (hw : Below W.heap.size W W1) : IsS82 w0 W1 g f0 f1 f2 := h.grown (grown_of_below hw none) (by simp)
theorem IsS82.alloc {w0 W : World} {g : Nat} {f0 : ByteArray} {f1 : Int} {f2 : Int} (h : IsS82 w0 W g f0 f1 f2) (o : Obj) : IsS82 w0 (W.alloc o) g f0 f1 f2 := h.below (below_alloc (Below.refl _ _) o)
theorem IsS82.drewN {w0 W : World} {g : Nat} {f0 : ByteArray} {f1 : Int} {f2 : Int} (h : IsS82 w0 W g f0 f1 f2) (m : Nat) : IsS82 w0 (W.drewN m) g f0 f1 f2 := h
theorem IsS82.drew {w0 W : World} {g : Nat} {f0 : ByteArray} {f1 : Int} {f2 : Int} (h : IsS82 w0 W g f0 f1 f2) : IsS82 w0 W.drew g f0 f1 f2 := h
theorem IsS82.at_ {w0 W : World} {g : Nat} {f0 : ByteArray} {f1 : Int} {f2 : Int} {w' : World} {m : Nat} (hq : W.drewN m = w') (h : IsS82 w0 W g f0 f1 f2) : IsS82 w0 w' g f0 f1 f2 := by subst hq; exact IsS82.drewN h m
theorem IsS82.lt {w0 W : World} {g : Nat} {f0 : ByteArray} {f1 : Int} {f2 : Int} (h : IsS82 w0 W g f0 f1 f2) : g < W.heap.size := by
 obtain ⟨hb, hg⟩ := h
 exact blk_lt hb
theorem IsS82.ge {w0 W : World} {g : Nat} {f0 : ByteArray} {f1 : Int} {f2 : Int} (h : IsS82 w0 W g f0 f1 f2) : w0.heap.size ≤ g := by
 obtain ⟨hb, hg⟩ := h
 exact hg
theorem IsS82.far {w0 W : World} {g : Nat} {f0 : ByteArray} {f1 : Int} {f2 : Int} {p : Addr} (h : IsS82 w0 W g f0 f1 f2) (hne : g ≠ p.block) (u : Value) : IsS82 w0 (W.setCell p u) g f0 f1 f2 := by
 obtain ⟨hb, hg⟩ := h
 exact ⟨blk_far hb hne u, hg⟩
theorem cellS82_0 {W : World} {g : Nat} {f0 : ByteArray} {f1 : Int} {f2 : Int} (h : W.heap[g]? = some (.cells #[.string f0, .int .i64 f1, .int .i64 f2] 82 (0, 0))) : W.cell? ⟨g, 0, none⟩ = some (.string f0) := (blk_cell h 0).trans rfl
theorem IsS82.set_0 {w0 W : World} {g : Nat} {f0 : ByteArray} {f1 : Int} {f2 : Int} (h : IsS82 w0 W g f0 f1 f2) (x : ByteArray) : IsS82 w0 (W.setCell ⟨g, 0, none⟩ (.string x)) g x f1 f2 := by
 obtain ⟨hb, hg⟩ := h
 exact ⟨by simpa using blk_set hb 0 (.string x), hg⟩
theorem cellS82_1 {W : World} {g : Nat} {f0 : ByteArray} {f1 : Int} {f2 : Int} (h : W.heap[g]? = some (.cells #[.string f0, .int .i64 f1, .int .i64 f2] 82 (0, 0))) : W.cell? ⟨g, 1, none⟩ = some (.int .i64 f1) := (blk_cell h 1).trans rfl
theorem IsS82.set_1 {w0 W : World} {g : Nat} {f0 : ByteArray} {f1 : Int} {f2 : Int} (h : IsS82 w0 W g f0 f1 f2) (x : Int) : IsS82 w0 (W.setCell ⟨g, 1, none⟩ (.int .i64 x)) g f0 x f2 := by
 obtain ⟨hb, hg⟩ := h
 exact ⟨by simpa using blk_set hb 1 (.int .i64 x), hg⟩
theorem cellS82_2 {W : World} {g : Nat} {f0 : ByteArray} {f1 : Int} {f2 : Int} (h : W.heap[g]? = some (.cells #[.string f0, .int .i64 f1, .int .i64 f2] 82 (0, 0))) : W.cell? ⟨g, 2, none⟩ = some (.int .i64 f2) := (blk_cell h 2).trans rfl
theorem IsS82.set_2 {w0 W : World} {g : Nat} {f0 : ByteArray} {f1 : Int} {f2 : Int} (h : IsS82 w0 W g f0 f1 f2) (x : Int) : IsS82 w0 (W.setCell ⟨g, 2, none⟩ (.int .i64 x)) g f0 f1 x := by
 obtain ⟨hb, hg⟩ := h
 exact ⟨by simpa using blk_set hb 2 (.int .i64 x), hg⟩
theorem IsS82.new (w0 W : World) (f0 : ByteArray) (f1 : Int) (f2 : Int) (hB : Below w0.heap.size w0 W) : IsS82 w0 (W.alloc (.cells #[.string f0, .int .i64 f1, .int .i64 f2] 82)) W.heap.size f0 f1 f2 := ⟨by simpa using heap_alloc_new W _, hB.size⟩
def line_reader_peek.f (s0_0 : ByteArray) (s0_1 : Int) (s0_2 : Int) : Option (Int × ByteArray × Int × Int) := if s0_2 = 0 then (if s0_1 ≥ (s0_0.size : Int) then (some (0, s0_0, s0_1, s0_2)) else (if 0 ≤ s0_1 then (if s0_1 < (s0_0.size : Int) then (some (bt s0_0 s0_1, s0_0, s0_1, s0_2)) else (none)) else (none))) else (some (0, s0_0, s0_1, s0_2))
set_option maxHeartbeats 8000000 in
set_option maxRecDepth 100000 in
theorem line_reader_peek.calls (g : Nat) (s0_0 : ByteArray) (s0_1 : Int) (s0_2 : Int) (r1 : Int) (r2 : ByteArray) (r3 : Int) (r4 : Int) (w0 w : World) (hG : GG w0) (hI : IsS82 w0 w g s0_0 s0_1 s0_2) (hB : Below w0.heap.size w0 w) (h : line_reader_peek.f s0_0 s0_1 s0_2 = some (r1, r2, r3, r4)) :
  Calls Tryd.prog 33 #[.pointer (some ⟨g, 0, none⟩)] w fun e w' => e = .returned (.int .u8 r1) ∧ IsS82 w0 w' g r2 r3 r4 ∧ Below w0.heap.size w0 w' ∧ KeepBut w w' g none := by
 have HI0 := Aside0.mk hI; have HK := Aside0.mk (KeepBut.refl w g none); have HL := Aside0.mk hB.size; clear hI; have HW0 := Aside0.mk hB.size; have HB := Aside0.mk hB; clear hB; have H : (if s0_2 = 0 then (if s0_1 ≥ (s0_0.size : Int) then (some (0, s0_0, s0_1, s0_2)) else (if 0 ≤ s0_1 then (if s0_1 < (s0_0.size : Int) then (some (bt s0_0 s0_1, s0_0, s0_1, s0_2)) else (none)) else (none))) else (some (0, s0_0, s0_1, s0_2))) = some (r1, r2, r3, r4) := h; clear h; replace H := zIe H; rcases H with ⟨-, c2b0, c2b1, H⟩ | ⟨c2, c2b0, c2b1, H⟩
 ·replace H := zI H; rcases H with ⟨c3, H⟩ | ⟨c3, H⟩
  ·have c3b0 : decide ((s0_0.size : Int) ≤ s0_1) = true := decide_eq_true c3; clear c3; simp only [Option.some.injEq, Prod.mk.injEq] at H; obtain ⟨rfl, rfl, rfl, rfl⟩ := H; obtain ⟨HGz4, hgz4⟩ := HI0.out; have hcz4_0 := cellS82_0 HGz4; have hcz4_1 := cellS82_1 HGz4; have hcz4_2 := cellS82_2 HGz4; have hfz4_0 := blk_frozen HGz4 0; have hfz4_1 := blk_frozen HGz4 1; have hfz4_2 := blk_frozen HGz4 2; clear HGz4 hgz4
   go_enter Tryd.func33, Tryd.ntmps33
   go_wp2
   repeat (go_quiet (fail); try go_wp2)
   go_ret; exact ⟨zE, by repeat (first | (with_reducible first | exact HI0.out | apply IsS82.alloc | apply IsS82.drewN | apply IsS82.drew | apply IsS82.set_0 | apply IsS82.set_1 | apply IsS82.set_2) | exact HI0.out), by repeat (first | (with_reducible first | exact HB.out | apply below_alloc | apply pw_below_drewN | apply below_drew1 | refine below_set ?_ (IsS82.ge HI0.out)) | exact HB.out), by repeat (first | (with_reducible first | exact HK.out | apply KeepBut.set_ | apply keep_drewN | apply keep_drew | apply keep_alloc) | exact HK.out)⟩
  ·have c3b0 : decide ((s0_0.size : Int) ≤ s0_1) = false := decide_eq_false c3; clear c3; replace H := zJd H; obtain ⟨-, c5b0, H⟩ := H; replace H := zJd H; obtain ⟨-, c6b0, H⟩ := H; simp only [Option.some.injEq, Prod.mk.injEq] at H; obtain ⟨rfl, rfl, rfl, rfl⟩ := H; obtain ⟨HGz8, hgz8⟩ := HI0.out; have hcz8_0 := cellS82_0 HGz8; have hcz8_1 := cellS82_1 HGz8; have hcz8_2 := cellS82_2 HGz8; have hfz8_0 := blk_frozen HGz8 0; have hfz8_1 := blk_frozen HGz8 1; have hfz8_2 := blk_frozen HGz8 2; clear HGz8 hgz8; have p7 := zP (0 ≤ (s0_1 : Int)); have q7 := zP (s0_1 < (s0_0.size : Int)); have hx7 := bt_at s0_0 s0_1
   go_enter Tryd.func33, Tryd.ntmps33
   go_wp2
   repeat (go_quiet (fail); try go_wp2)
   go_ret; exact ⟨zE, by repeat (first | (with_reducible first | exact HI0.out | apply IsS82.alloc | apply IsS82.drewN | apply IsS82.drew | apply IsS82.set_0 | apply IsS82.set_1 | apply IsS82.set_2) | exact HI0.out), by repeat (first | (with_reducible first | exact HB.out | apply below_alloc | apply pw_below_drewN | apply below_drew1 | refine below_set ?_ (IsS82.ge HI0.out)) | exact HB.out), by repeat (first | (with_reducible first | exact HK.out | apply KeepBut.set_ | apply keep_drewN | apply keep_drew | apply keep_alloc) | exact HK.out)⟩
 ·simp only [Option.some.injEq, Prod.mk.injEq] at H; obtain ⟨rfl, rfl, rfl, rfl⟩ := H; obtain ⟨HGz9, hgz9⟩ := HI0.out; have hcz9_0 := cellS82_0 HGz9; have hcz9_1 := cellS82_1 HGz9; have hcz9_2 := cellS82_2 HGz9; have hfz9_0 := blk_frozen HGz9 0; have hfz9_1 := blk_frozen HGz9 1; have hfz9_2 := blk_frozen HGz9 2; clear HGz9 hgz9
  go_enter Tryd.func33, Tryd.ntmps33
  go_wp2
  repeat (go_quiet (fail); try go_wp2)
  go_ret; exact ⟨zE, by repeat (first | (with_reducible first | exact HI0.out | apply IsS82.alloc | apply IsS82.drewN | apply IsS82.drew | apply IsS82.set_0 | apply IsS82.set_1 | apply IsS82.set_2) | exact HI0.out), by repeat (first | (with_reducible first | exact HB.out | apply below_alloc | apply pw_below_drewN | apply below_drew1 | refine below_set ?_ (IsS82.ge HI0.out)) | exact HB.out), by repeat (first | (with_reducible first | exact HK.out | apply KeepBut.set_ | apply keep_drewN | apply keep_drew | apply keep_alloc) | exact HK.out)⟩
def line_reader_wrong.f (s0_0 : ByteArray) (s0_1 : Int) (s0_2 : Int) (a1 : Int) (a2 : Int) : Option (ByteArray × Int × Int) := if s0_2 = 0 then (some (s0_0, a2, a1)) else (some (s0_0, s0_1, s0_2))
set_option maxHeartbeats 8000000 in
set_option maxRecDepth 100000 in
theorem line_reader_wrong.calls (g : Nat) (s0_0 : ByteArray) (s0_1 : Int) (s0_2 : Int) (a1 : Int) (a2 : Int) (r1 : ByteArray) (r2 : Int) (r3 : Int) (w0 w : World) (hG : GG w0) (hI : IsS82 w0 w g s0_0 s0_1 s0_2) (hB : Below w0.heap.size w0 w) (h : line_reader_wrong.f s0_0 s0_1 s0_2 a1 a2 = some (r1, r2, r3)) :
  Calls Tryd.prog 35 #[.pointer (some ⟨g, 0, none⟩), .int .i64 a1, .int .i64 a2] w fun e w' => e = .returned (.tuple #[]) ∧ IsS82 w0 w' g r1 r2 r3 ∧ Below w0.heap.size w0 w' ∧ KeepBut w w' g none := by
 have HI0 := Aside0.mk hI; have HK := Aside0.mk (KeepBut.refl w g none); have HL := Aside0.mk hB.size; clear hI; have HW0 := Aside0.mk hB.size; have HB := Aside0.mk hB; clear hB; have H : (if s0_2 = 0 then (some (s0_0, a2, a1)) else (some (s0_0, s0_1, s0_2))) = some (r1, r2, r3) := h; clear h; replace H := zIe H; rcases H with ⟨-, c4b0, c4b1, H⟩ | ⟨c4, c4b0, c4b1, H⟩
 ·simp only [Option.some.injEq, Prod.mk.injEq] at H; obtain ⟨rfl, rfl, rfl⟩ := H; obtain ⟨HGz5, hgz5⟩ := HI0.out; have hcz5_0 := cellS82_0 HGz5; have hcz5_1 := cellS82_1 HGz5; have hcz5_2 := cellS82_2 HGz5; have hfz5_0 := blk_frozen HGz5 0; have hfz5_1 := blk_frozen HGz5 1; have hfz5_2 := blk_frozen HGz5 2; clear HGz5 hgz5
  go_enter Tryd.func35, Tryd.ntmps35
  go_wp2
  first | go_end0 | ((try simp only [Exit.inBlock, Exit.then]); refine bodyPost_ret (results_none rfl _ _ _) rfl ?_)
  exact ⟨zE, by repeat (first | (with_reducible first | exact HI0.out | apply IsS82.alloc | apply IsS82.drewN | apply IsS82.drew | apply IsS82.set_0 | apply IsS82.set_1 | apply IsS82.set_2) | exact HI0.out), by repeat (first | (with_reducible first | exact HB.out | apply below_alloc | apply pw_below_drewN | apply below_drew1 | refine below_set ?_ (IsS82.ge HI0.out)) | exact HB.out), by repeat (first | (with_reducible first | exact HK.out | apply KeepBut.set_ | apply keep_drewN | apply keep_drew | apply keep_alloc) | exact HK.out)⟩
 ·simp only [Option.some.injEq, Prod.mk.injEq] at H; obtain ⟨rfl, rfl, rfl⟩ := H; obtain ⟨HGz6, hgz6⟩ := HI0.out; have hcz6_0 := cellS82_0 HGz6; have hcz6_1 := cellS82_1 HGz6; have hcz6_2 := cellS82_2 HGz6; have hfz6_0 := blk_frozen HGz6 0; have hfz6_1 := blk_frozen HGz6 1; have hfz6_2 := blk_frozen HGz6 2; clear HGz6 hgz6
  go_enter Tryd.func35, Tryd.ntmps35
  go_wp2
  first | go_end0 | ((try simp only [Exit.inBlock, Exit.then]); refine bodyPost_ret (results_none rfl _ _ _) rfl ?_)
  exact ⟨zE, by repeat (first | (with_reducible first | exact HI0.out | apply IsS82.alloc | apply IsS82.drewN | apply IsS82.drew | apply IsS82.set_0 | apply IsS82.set_1 | apply IsS82.set_2) | exact HI0.out), by repeat (first | (with_reducible first | exact HB.out | apply below_alloc | apply pw_below_drewN | apply below_drew1 | refine below_set ?_ (IsS82.ge HI0.out)) | exact HB.out), by repeat (first | (with_reducible first | exact HK.out | apply KeepBut.set_ | apply keep_drewN | apply keep_drew | apply keep_alloc) | exact HK.out)⟩
def escape_control.f (a0 : Int) (a1 : Bool) : Option (Bool) := if a0 = 9 then (some false) else (if a0 = 10 then (some (!a1)) else (if a0 < 32 then (some true) else (some (a0 == 127))))
set_option maxHeartbeats 8000000 in
set_option maxRecDepth 100000 in
theorem escape_control.calls (a0 : Int) (a1 : Bool) (r : Bool) (w : World) (hG : GG w) (h : escape_control.f a0 a1 = some r) :
  Calls Tryd.prog 48 #[.int .u8 a0, .bool a1] w fun e w' => e = .returned (.bool r) ∧ Drawn0 w w' := by
 have H : (if a0 = 9 then (some false) else (if a0 = 10 then (some (!a1)) else (if a0 < 32 then (some true) else (some (a0 == 127))))) = some r := h; clear h; replace H := zIe H; rcases H with ⟨-, c3b0, c3b1, H⟩ | ⟨c3, c3b0, c3b1, H⟩
 ·obtain rfl := Option.some.inj H
  go_enter Tryd.func48, Tryd.ntmps48
  go_wp2; go_ret
  exact ⟨zS, zD⟩
 ·replace H := zIe H; rcases H with ⟨-, c4b0, c4b1, H⟩ | ⟨c4, c4b0, c4b1, H⟩
  ·obtain rfl := Option.some.inj H
   go_enter Tryd.func48, Tryd.ntmps48
   go_wp2; go_ret
   exact ⟨zS, zD⟩
  ·replace H := zId H; rcases H with ⟨-, c5b0, H⟩ | ⟨-, c5b0, H⟩
   ·obtain rfl := Option.some.inj H
    go_enter Tryd.func48, Tryd.ntmps48
    go_wp2; go_ret
    exact ⟨zS, zD⟩
   ·obtain rfl := Option.some.inj H
    go_enter Tryd.func48, Tryd.ntmps48
    go_wp2; go_ret
    exact ⟨zS, zD⟩
def escape_Clean.l0 : Nat → ByteArray → Bool → Int → Int → Option (Int)
 | 0, _, _, _, _ => none
 | k + 1, x0, x1, x10, x11 => if x11 < x10 then (if 0 ≤ x11 then (if x11 < (x0.size : Int) then ((escape_control.f (bt x0 x11) x1).bind fun t126 => (if t126 = true then (some 7) else (escape_Clean.l0 k x0 x1 x10 (wrap64 (x11 + 1))))) else (none)) else (none)) else (some 0)
def escape_Clean.f (k : Nat) (a0 : ByteArray) (a1 : Bool) : Option (Int) := (utf8_ValidString.f a0).bind fun t125 => (if t125 = true then (escape_Clean.l0 k a0 a1 (a0.size : Int) 0) else (some 3))
set_option maxHeartbeats 8000000 in
set_option maxRecDepth 100000 in
theorem escape_Clean.calls (k : Nat) (a0 : ByteArray) (a1 : Bool) (r : Int) (w : World) (hG : GG w) (h : escape_Clean.f k a0 a1 = some r) :
  Calls Tryd.prog 36 #[.string a0, .bool a1] w fun e w' => e = .returned (.int .i64 r) ∧ Below w.heap.size w w' := by
 have HB := Aside0.mk (Below.refl w.heap.size w); have H : ((utf8_ValidString.f a0).bind fun t125 => (if t125 = true then (escape_Clean.l0 k a0 a1 (a0.size : Int) 0) else (some 3))) = some r := h; clear h; replace H := Option.bind_eq_some_iff.mp H; obtain ⟨t125, A30, H⟩ := H; replace H : (if t125 = true then (escape_Clean.l0 k a0 a1 (a0.size : Int) 0) else (some 3)) = some r := H; have A3 := Aside0.mk A30; clear A30; replace H := zIb H; rcases H with ⟨rfl, H⟩ | ⟨rfl, H⟩
 ·have H' := Aside0.mk H; clear H
  go_enter Tryd.func36, Tryd.ntmps36
  go_wp2_with (first | ((with_reducible refine gate_callee (f := 31) rfl ?_); refine goesL_ (some 7) rfl rfl Tryd.func31 (by kernel_rfl) rfl #[.string a0] rfl zA ?_; (with_reducible refine (utf8_ValidString.calls a0 true _ zG A3.out).mono ?_); rintro e w5 ⟨rfl, hb⟩; refine ⟨_, rfl, ?_⟩; replace HB := zw hb; (try clear hb)))
  go_loopg [11] k (fun kq v11 w' => ∃ (x11_1 : Int), v11 = .int .i64 x11_1 ∧ Aside0 (escape_Clean.l0 kq a0 a1 (a0.size : Int) x11_1 = some r) ∧ Aside0 (kq ≤ k) ∧ Aside0 (Below w.heap.size w w'))
  case atStart => exact ⟨(0), zS, H', ⟨Nat.le_refl _⟩, ⟨zB⟩⟩
  case round =>
   clear H'; obtain ⟨x11_1, rfl, HA, HK1, HB⟩ := hrel
   cases gk with
   | zero => exact absurd HA.out (by simp [escape_Clean.l0])
   | succ k1 =>
    have H := HA.out; clear HA; simp only [escape_Clean.l0] at H; replace H := zId H; rcases H with ⟨-, c6b0, H⟩ | ⟨-, c6b0, H⟩
    ·replace H := zJd H; obtain ⟨-, c7b0, H⟩ := H; replace H := zJd H; obtain ⟨-, c8b0, H⟩ := H; replace H := Option.bind_eq_some_iff.mp H; obtain ⟨t126, A100, H⟩ := H; replace H : (if t126 = true then (some 7) else (escape_Clean.l0 k1 a0 a1 (a0.size : Int) (wrap64 (x11_1 + 1)))) = some r := H; have A10 := Aside0.mk A100; clear A100; replace H := zIb H; rcases H with ⟨rfl, H⟩ | ⟨rfl, H⟩
     ·obtain rfl := Option.some.inj H; have p9 := zP (0 ≤ (x11_1 : Int)); have q9 := zP (x11_1 < (a0.size : Int)); have hx9 := bt_at a0 x11_1
      go_wp2_with (first | ((with_reducible refine gate_callee (f := 48) rfl ?_); refine goesL_ (some 18) rfl rfl Tryd.func48 (by kernel_rfl) rfl #[.int .u8 (bt a0 x11_1), .bool a1] rfl zA ?_; (with_reducible refine (escape_control.calls (bt a0 x11_1) a1 true _ zG A10.out).mono ?_); rintro e w' ⟨rfl, ⟨nd, rfl⟩⟩; refine ⟨_, rfl, ?_⟩))
      go_ret; exact ⟨zE, zB⟩
     ·have H' := Aside0.mk H; clear H; have p9 := zP (0 ≤ (x11_1 : Int)); have q9 := zP (x11_1 < (a0.size : Int)); have hx9 := bt_at a0 x11_1
      go_wp2_with (first | ((with_reducible refine gate_callee (f := 48) rfl ?_); refine goesL_ (some 18) rfl rfl Tryd.func48 (by kernel_rfl) rfl #[.int .u8 (bt a0 x11_1), .bool a1] rfl zA ?_; (with_reducible refine (escape_control.calls (bt a0 x11_1) a1 false _ zG A10.out).mono ?_); rintro e w' ⟨rfl, ⟨nd, rfl⟩⟩; refine ⟨_, rfl, ?_⟩))
      go_roundg k1
      case measure => have := HK1.out; omega
      case rel => exact ⟨(wrap64 (x11_1 + 1)), zS, H', ⟨by have := HK1.out; omega⟩, ⟨zB⟩⟩
    ·obtain rfl := Option.some.inj H; go_wp2; go_ret; exact ⟨zE, zB⟩
 ·obtain rfl := Option.some.inj H
  go_enter Tryd.func36, Tryd.ntmps36
  go_wp2_with (first | ((with_reducible refine gate_callee (f := 31) rfl ?_); refine goesL_ (some 7) rfl rfl Tryd.func31 (by kernel_rfl) rfl #[.string a0] rfl zA ?_; (with_reducible refine (utf8_ValidString.calls a0 false _ zG A3.out).mono ?_); rintro e w12 ⟨rfl, hb⟩; refine ⟨_, rfl, ?_⟩; replace HB := zw hb; (try clear hb)))
  go_ret; exact ⟨zE, zB⟩
def tree_bound.f (a0 : ByteArray) : Option (Bool) := if a0.toList = ([66, 69, 71, 73, 78] : List UInt8) then (some true) else (some (a0.toList == ([69, 78, 68] : List UInt8)))
set_option maxHeartbeats 8000000 in
set_option maxRecDepth 100000 in
theorem tree_bound.calls (a0 : ByteArray) (r : Bool) (w : World) (hG : GG w) (h : tree_bound.f a0 = some r) :
  Calls Tryd.prog 38 #[.string a0] w fun e w' => e = .returned (.bool r) ∧ Drawn0 w w' := by
 have H : (if a0.toList = ([66, 69, 71, 73, 78] : List UInt8) then (some true) else (some (a0.toList == ([69, 78, 68] : List UInt8)))) = some r := h; clear h; replace H := zIe H; rcases H with ⟨-, c2b0, c2b1, H⟩ | ⟨c2, c2b0, c2b1, H⟩
 ·obtain rfl := Option.some.inj H
  go_enter Tryd.func38, Tryd.ntmps38
  go_wp2; go_ret
  exact ⟨zS, zD⟩
 ·obtain rfl := Option.some.inj H
  go_enter Tryd.func38, Tryd.ntmps38
  go_wp2; go_ret
  exact ⟨zS, zD⟩
def line_sign.f (a0 : Int) (a1 : Bool) : Option (Bool) := if a0 ≥ 65 then (if a0 ≤ 90 then (some true) else (if a0 ≥ 48 then (if a0 ≤ 57 then (some true) else (if a0 = 45 then (some true) else (if a1 = true then (some false) else (if a0 ≥ 97 then (some (decide (a0 ≤ 122))) else (some false))))) else (if a0 = 45 then (some true) else (if a1 = true then (some false) else (if a0 ≥ 97 then (some (decide (a0 ≤ 122))) else (some false)))))) else (if a0 ≥ 48 then (if a0 ≤ 57 then (some true) else (if a0 = 45 then (some true) else (if a1 = true then (some false) else (if a0 ≥ 97 then (some (decide (a0 ≤ 122))) else (some false))))) else (if a0 = 45 then (some true) else (if a1 = true then (some false) else (if a0 ≥ 97 then (some (decide (a0 ≤ 122))) else (some false)))))
set_option maxHeartbeats 8000000 in
set_option maxRecDepth 100000 in
theorem line_sign.calls (a0 : Int) (a1 : Bool) (r : Bool) (w : World) (hG : GG w) (h : line_sign.f a0 a1 = some r) :
  Calls Tryd.prog 45 #[.int .u8 a0, .bool a1] w fun e w' => e = .returned (.bool r) ∧ Drawn0 w w' := by
 have H : (if a0 ≥ 65 then (if a0 ≤ 90 then (some true) else (if a0 ≥ 48 then (if a0 ≤ 57 then (some true) else (if a0 = 45 then (some true) else (if a1 = true then (some false) else (if a0 ≥ 97 then (some (decide (a0 ≤ 122))) else (some false))))) else (if a0 = 45 then (some true) else (if a1 = true then (some false) else (if a0 ≥ 97 then (some (decide (a0 ≤ 122))) else (some false)))))) else (if a0 ≥ 48 then (if a0 ≤ 57 then (some true) else (if a0 = 45 then (some true) else (if a1 = true then (some false) else (if a0 ≥ 97 then (some (decide (a0 ≤ 122))) else (some false))))) else (if a0 = 45 then (some true) else (if a1 = true then (some false) else (if a0 ≥ 97 then (some (decide (a0 ≤ 122))) else (some false)))))) = some r := h; clear h; replace H := zI H; rcases H with ⟨c3, H⟩ | ⟨c3, H⟩
 ·have c3b0 : decide (65 ≤ a0) = true := decide_eq_true c3; clear c3; replace H := zId H; rcases H with ⟨-, c4b0, H⟩ | ⟨-, c4b0, H⟩
  ·obtain rfl := Option.some.inj H
   go_enter Tryd.func45, Tryd.ntmps45
   go_wp2; go_ret
   exact ⟨zS, zD⟩
  ·replace H := zI H; rcases H with ⟨c5, H⟩ | ⟨c5, H⟩
   ·have c5b0 : decide (48 ≤ a0) = true := decide_eq_true c5; clear c5; replace H := zId H; rcases H with ⟨-, c6b0, H⟩ | ⟨-, c6b0, H⟩
    ·obtain rfl := Option.some.inj H
     go_enter Tryd.func45, Tryd.ntmps45
     go_wp2; go_ret
     exact ⟨zS, zD⟩
    ·replace H := zIe H; rcases H with ⟨-, c7b0, c7b1, H⟩ | ⟨c7, c7b0, c7b1, H⟩
     ·obtain rfl := Option.some.inj H
      go_enter Tryd.func45, Tryd.ntmps45
      go_wp2; go_ret
      exact ⟨zS, zD⟩
     ·replace H := zIb H; rcases H with ⟨rfl, H⟩ | ⟨rfl, H⟩
      ·obtain rfl := Option.some.inj H
       go_enter Tryd.func45, Tryd.ntmps45
       go_wp2; go_ret
       exact ⟨zS, zD⟩
      ·replace H := zI H; rcases H with ⟨c9, H⟩ | ⟨c9, H⟩
       ·have c9b0 : decide (97 ≤ a0) = true := decide_eq_true c9; clear c9; obtain rfl := Option.some.inj H
        go_enter Tryd.func45, Tryd.ntmps45
        go_wp2; go_ret
        exact ⟨zS, zD⟩
       ·have c9b0 : decide (97 ≤ a0) = false := decide_eq_false c9; clear c9; obtain rfl := Option.some.inj H
        go_enter Tryd.func45, Tryd.ntmps45
        go_wp2; go_ret
        exact ⟨zS, zD⟩
   ·have c5b0 : decide (48 ≤ a0) = false := decide_eq_false c5; clear c5; replace H := zIe H; rcases H with ⟨-, c10b0, c10b1, H⟩ | ⟨c10, c10b0, c10b1, H⟩
    ·obtain rfl := Option.some.inj H
     go_enter Tryd.func45, Tryd.ntmps45
     go_wp2; go_ret
     exact ⟨zS, zD⟩
    ·replace H := zIb H; rcases H with ⟨rfl, H⟩ | ⟨rfl, H⟩
     ·obtain rfl := Option.some.inj H
      go_enter Tryd.func45, Tryd.ntmps45
      go_wp2; go_ret
      exact ⟨zS, zD⟩
     ·replace H := zI H; rcases H with ⟨c12, H⟩ | ⟨c12, H⟩
      ·have c12b0 : decide (97 ≤ a0) = true := decide_eq_true c12; clear c12; obtain rfl := Option.some.inj H
       go_enter Tryd.func45, Tryd.ntmps45
       go_wp2; go_ret
       exact ⟨zS, zD⟩
      ·have c12b0 : decide (97 ≤ a0) = false := decide_eq_false c12; clear c12; obtain rfl := Option.some.inj H
       go_enter Tryd.func45, Tryd.ntmps45
       go_wp2; go_ret
       exact ⟨zS, zD⟩
 ·have c3b0 : decide (65 ≤ a0) = false := decide_eq_false c3; clear c3; replace H := zI H; rcases H with ⟨c13, H⟩ | ⟨c13, H⟩
  ·have c13b0 : decide (48 ≤ a0) = true := decide_eq_true c13; clear c13; replace H := zId H; rcases H with ⟨-, c14b0, H⟩ | ⟨-, c14b0, H⟩
   ·obtain rfl := Option.some.inj H
    go_enter Tryd.func45, Tryd.ntmps45
    go_wp2; go_ret
    exact ⟨zS, zD⟩
   ·replace H := zIe H; rcases H with ⟨-, c15b0, c15b1, H⟩ | ⟨c15, c15b0, c15b1, H⟩
    ·obtain rfl := Option.some.inj H
     go_enter Tryd.func45, Tryd.ntmps45
     go_wp2; go_ret
     exact ⟨zS, zD⟩
    ·replace H := zIb H; rcases H with ⟨rfl, H⟩ | ⟨rfl, H⟩
     ·obtain rfl := Option.some.inj H
      go_enter Tryd.func45, Tryd.ntmps45
      go_wp2; go_ret
      exact ⟨zS, zD⟩
     ·replace H := zI H; rcases H with ⟨c17, H⟩ | ⟨c17, H⟩
      ·have c17b0 : decide (97 ≤ a0) = true := decide_eq_true c17; clear c17; obtain rfl := Option.some.inj H
       go_enter Tryd.func45, Tryd.ntmps45
       go_wp2; go_ret
       exact ⟨zS, zD⟩
      ·have c17b0 : decide (97 ≤ a0) = false := decide_eq_false c17; clear c17; obtain rfl := Option.some.inj H
       go_enter Tryd.func45, Tryd.ntmps45
       go_wp2; go_ret
       exact ⟨zS, zD⟩
  ·have c13b0 : decide (48 ≤ a0) = false := decide_eq_false c13; clear c13; replace H := zIe H; rcases H with ⟨-, c18b0, c18b1, H⟩ | ⟨c18, c18b0, c18b1, H⟩
   ·obtain rfl := Option.some.inj H
    go_enter Tryd.func45, Tryd.ntmps45
    go_wp2; go_ret
    exact ⟨zS, zD⟩
   ·replace H := zIb H; rcases H with ⟨rfl, H⟩ | ⟨rfl, H⟩
    ·obtain rfl := Option.some.inj H
     go_enter Tryd.func45, Tryd.ntmps45
     go_wp2; go_ret
     exact ⟨zS, zD⟩
    ·replace H := zI H; rcases H with ⟨c20, H⟩ | ⟨c20, H⟩
     ·have c20b0 : decide (97 ≤ a0) = true := decide_eq_true c20; clear c20; obtain rfl := Option.some.inj H
      go_enter Tryd.func45, Tryd.ntmps45
      go_wp2; go_ret
      exact ⟨zS, zD⟩
     ·have c20b0 : decide (97 ≤ a0) = false := decide_eq_false c20; clear c20; obtain rfl := Option.some.inj H
      go_enter Tryd.func45, Tryd.ntmps45
      go_wp2; go_ret
      exact ⟨zS, zD⟩
end Go.Proofs.YtdojmdbaiddkgaaDoor.Print
end
section
set_option linter.unusedVariables false
set_option linter.unusedSimpArgs false
namespace Go.Proofs.YtdojmdbaiddkgaaDoor.Print
open Go.RowKit Go.Proofs.YtdojmdbaiddkgaaDoorW.PrintWords Go.Proofs.YtdojmdbaiddkgaaDoorW.PrintLast Go.Proofs.YtdojmdbaiddkgaaDoorW.PrintMore
def greatB (c : UInt8) : UInt8 := if 97 ≤ c.toNat ∧ c.toNat ≤ 122 then c - 32 else c
theorem greatB_yes (c : UInt8) (h : 97 ≤ c.toNat) (h2 : c.toNat ≤ 122) : ((greatB c).toNat : Int) = (c.toNat : Int) - 32 := by
  unfold greatB
  rw [if_pos ⟨h, h2⟩, UInt8.toNat_sub_of_le c 32 (by rw [UInt8.le_iff_toNat_le]; show 32 ≤ _; omega)]
  show ((c.toNat - 32 : Nat) : Int) = _
  omega
theorem greatB_no (c : UInt8) (h : ¬ (97 ≤ c.toNat ∧ c.toNat ≤ 122)) : greatB c = c := if_neg h
theorem gcv_blk (s : ByteArray) (w : World) : ∃ w' cap cs, (convert 9 102 (.string s)).run Tryd.prog w = .ok (.slice (some ⟨w.heap.size, 0, none⟩) s.size cap) w' ∧ Below w.heap.size w w' ∧ w'.heap[w.heap.size]? = some (.cells cs 5 (cs.size, cs.size + 1)) ∧ s.size ≤ cs.size ∧ (∀ j, j < s.size → cs[j]? = some (.int .u8 ((s.data.toList.getD j 0).toNat : Nat))) := by
  refine ⟨Lib.bytesWorld w 5 s, _, _, Lib.run_convert_string_bytes w 9 102 5 s Tryd.underlying9 Tryd.underlying102 Tryd.underlying5, ⟨?_, ?_, ?_, ?_, fun j hj => Lib.bytesWorld_at_old w 5 s j hj⟩, Lib.bytesWorld_at_new w 5 s, ?_, fun j hj => ?_⟩
  · unfold Lib.bytesWorld World.freeze; split <;> rfl
  · unfold Lib.bytesWorld World.freeze; split <;> rfl
  · unfold Lib.bytesWorld World.freeze; split <;> rfl
  · rw [Lib.bytesWorld_size]; omega
  · unfold Lib.bytesCells; rw [Array.size_append, Array.size_map]; show s.data.size ≤ _; omega
  · have h := Lib.bytesWorld_cell w 5 s j hj
    simp only [World.cell?, Lib.bytesWorld_at_new] at h
    simpa using h
theorem gblk_cell {w : World} {g : Nat} {cs : Array Value} {t : TypeId} {fr : Nat × Nat} (h : w.heap[g]? = some (.cells cs t fr)) (j : Nat) : w.cell? ⟨g, j, none⟩ = cs[j]? := by simp [World.cell?, h]
theorem gblk_froz {w : World} {g : Nat} {cs : Array Value} {t : TypeId} (h : w.heap[g]? = some (.cells cs t (cs.size, cs.size + 1))) (j : Nat) (hj : j < cs.size) : w.frozen? ⟨g, j, none⟩ = false := by simp [World.frozen?, h]; omega
theorem gblk_set {w : World} {g : Nat} {t : TypeId} {cs : Array Value} {fr : Nat × Nat} (h : w.heap[g]? = some (.cells cs t fr)) (i : Nat) (u : Value) : (w.setCell ⟨g, i, none⟩ u).heap[g]? = some (.cells (cs.setIfInBounds i u) t fr) := by
  simp [World.setCell, Array.getElem?_modify, h]
def greatS (s : ByteArray) : ByteArray := ⟨(s.data.toList.map greatB).toArray⟩
/-- The bytes, great up to a place. -/
structure GrB (s : ByteArray) (G : Nat) (i : Nat) (w : World) : Prop where
  ex : ∃ cs : Array Value, w.heap[G]? = some (.cells cs 5 (cs.size, cs.size + 1)) ∧ s.size ≤ cs.size ∧ (∀ j, j < i → cs[j]? = some (.int .u8 ((greatB (s.data.toList.getD j 0)).toNat : Nat))) ∧ (∀ j, i ≤ j → j < s.size → cs[j]? = some (.int .u8 ((s.data.toList.getD j 0).toNat : Nat)))
theorem grB_step {s : ByteArray} {G i : Nat} {w : World} (h : GrB s G i w) (hi : i < s.size) (u : Value) (hu : u = .int .u8 ((greatB (s.data.toList.getD i 0)).toNat : Nat)) : GrB s G (i + 1) (w.setCell ⟨G, i, none⟩ u) := by
  obtain ⟨cs, h1, h2, h3, h4⟩ := h.ex
  refine ⟨cs.setIfInBounds i u, ?_, by rw [Array.size_setIfInBounds]; exact h2, fun j hj => ?_, fun j hj hjs => ?_⟩
  · rw [Array.size_setIfInBounds]; exact gblk_set h1 i u
  · by_cases e : j = i
    · subst e; rw [Array.getElem?_setIfInBounds_self_of_lt (by omega), hu]
    · rw [Array.getElem?_setIfInBounds_ne (by omega)]; exact h3 j (by omega)
  · rw [Array.getElem?_setIfInBounds_ne (by omega)]; exact h4 j (by omega) hjs
theorem grB_skip {s : ByteArray} {G i : Nat} {w : World} (h : GrB s G i w) (hi : i < s.size) (hu : greatB (s.data.toList.getD i 0) = s.data.toList.getD i 0) : GrB s G (i + 1) w := by
  obtain ⟨cs, h1, h2, h3, h4⟩ := h.ex
  refine ⟨_, h1, h2, fun j hj => ?_, fun j hj hjs => h4 j (by omega) hjs⟩
  by_cases e : j = i
  · subst e; rw [hu]; exact h4 j (Nat.le_refl _) hi
  · exact h3 j (by omega)
set_option maxHeartbeats 4000000 in
set_option maxRecDepth 100000 in
theorem great_walk (s : ByteArray) (w : World) (hs : s.size ≤ 9223372036854775807) :
    Calls Tryd.prog 37 #[.string s] w fun e w' => e = .returned (.string (greatS s)) ∧ Below w.heap.size w w' := by
  obtain ⟨w1, cap, cs, hrun, hB1, hb, hle, hcs⟩ := gcv_blk s w
  obtain ⟨G, hG⟩ : ∃ G, G = w.heap.size := ⟨_, rfl⟩
  rw [← hG] at hrun hb
  have HG := Aside0.mk hG
  have HS := Aside0.mk (show GrB s G 0 w1 from ⟨cs, hb, hle, fun j hj => by omega, fun j _ hj => hcs j hj⟩)
  have HB := Aside0.mk hB1
  clear hb hle hcs hB1 hG
  go_enter Tryd.func37, Tryd.ntmps37
  go_wp2_with fail
  clear hrun
  go_loopg [4, 5, 10] s.size (fun g v4 v5 v10 wr => ∃ i : Nat, v10 = .int .i64 i ∧ i ≤ s.size ∧ Aside0 (s.size ≤ i + g) ∧ Aside0 (GrB s G i wr) ∧ Aside0 (Below w.heap.size w wr))
  case atStart => exact ⟨0, rfl, by omega, ⟨by omega⟩, HS, HB⟩
  case round =>
    obtain ⟨i, rfl, hi, HK, HC, HBr⟩ := hrel
    by_cases hlt : i < s.size
    · cases gk with
      | zero => exfalso; have := HK.out; omega
      | succ g =>
      obtain ⟨cs, h1, h2, h3, h4⟩ := HC.out.ex
      obtain ⟨c, hc⟩ : ∃ c, c = s.data.toList.getD i 0 := ⟨_, rfl⟩
      have hold : wr.cell? ⟨G, i, none⟩ = some (.int .u8 ((c.toNat : Nat) : Int)) := by rw [gblk_cell h1, h4 i (Nat.le_refl _) hlt, ← hc]
      have hfz : wr.frozen? ⟨G, i, none⟩ = false := gblk_froz h1 i (by omega)
      have hc2 : c.toNat < 256 := c.toNat_lt
      have HCc := Aside0.mk hc
      clear h1 h2 h3 h4 hc
      by_cases hg1 : 97 ≤ c.toNat
      · by_cases hg2 : c.toNat ≤ 122
        · have hy := greatB_yes c hg1 hg2
          have HY := Aside0.mk hy
          clear hy
          have k1 : decide ((c.toNat : Int) ≥ 97) = true := decide_eq_true (by omega)
          have k2 : decide ((c.toNat : Int) ≤ 122) = true := decide_eq_true (by omega)
          go_wp2_with fail
          go_roundg g
          case measure => have := HK.out; omega
          case rel => exact ⟨i + 1, by first | rfl | (go_num; done), by omega, ⟨by have := HK.out; omega⟩, ⟨grB_step HC.out hlt _ (by rw [← HCc.out, HY.out])⟩, ⟨Below.setCell HBr.out (by have := HG.out; show _ ≤ G; omega) _⟩⟩
        · have hy := greatB_no c (by omega)
          have HY := Aside0.mk hy
          clear hy
          have k1 : decide ((c.toNat : Int) ≥ 97) = true := decide_eq_true (by omega)
          have k2 : decide ((c.toNat : Int) ≤ 122) = false := decide_eq_false (by omega)
          go_wp2_with fail
          go_roundg g
          case measure => have := HK.out; omega
          case rel => exact ⟨i + 1, by first | rfl | (go_num; done), by omega, ⟨by have := HK.out; omega⟩, ⟨grB_skip HC.out hlt (by rw [← HCc.out, HY.out])⟩, HBr⟩
      · have hy := greatB_no c (by omega)
        have HY := Aside0.mk hy
        clear hy
        have k1 : decide ((c.toNat : Int) ≥ 97) = false := decide_eq_false (by omega)
        go_wp2_with fail
        go_roundg g
        case measure => have := HK.out; omega
        case rel => exact ⟨i + 1, by first | rfl | (go_num; done), by omega, ⟨by have := HK.out; omega⟩, ⟨grB_skip HC.out hlt (by rw [← HCc.out, HY.out])⟩, HBr⟩
    · have hin : i = s.size := by omega
      subst hin
      have hl : (s.data.toList.map greatB).length = s.size := by simp
      have hcv := run_convert_bytes_back (P := Tryd.prog) wr 102 9 5 ⟨G, 0, none⟩ cap (s.data.toList.map greatB) Tryd.underlying102 Tryd.underlying5 Tryd.underlying9 (fun j hj => by
        obtain ⟨cs, h1, h2, h3, h4⟩ := HC.out.ex
        have ha : (⟨G, 0, none⟩ : Addr).add j = ⟨G, j, none⟩ := by
          unfold Addr.add
          split
          · rename_i h8; subst h8; rfl
          · simp
        have hj2 : j < s.size := by rw [hl] at hj; exact hj
        rw [ha, gblk_cell h1, h3 j hj2, List.getElem_map, List.getD_eq_getElem?_getD, List.getElem?_eq_getElem (by rw [Array.length_toList]; exact hj2)]; rfl)
      rw [hl] at hcv
      clear hl
      go_wp2_with fail
      go_ret
      exact ⟨rfl, HBr.out⟩
def line_Great.f (a0 : ByteArray) : Option ByteArray := if a0.size ≤ 9223372036854775807 then some (greatS a0) else none
theorem line_Great.calls (a0 : ByteArray) (r : ByteArray) (w : World) (hG : GG w) (h : line_Great.f a0 = some r) :
    Calls Tryd.prog 37 #[.string a0] w fun e w' => e = .returned (.string r) ∧ Below w.heap.size w w' := by
  unfold line_Great.f at h
  by_cases hs : a0.size ≤ 9223372036854775807
  · rw [if_pos hs] at h
    obtain rfl := Option.some.inj h
    exact great_walk a0 w hs
  · rw [if_neg hs] at h; cases h
end Go.Proofs.YtdojmdbaiddkgaaDoor.Print
end
section
set_option linter.unusedVariables false
set_option linter.unusedSimpArgs false
namespace Go.Proofs.YtdojmdbaiddkgaaDoor.Print
open Go.RowKit Go.Proofs.YtdojmdbaiddkgaaDoorW.PrintWords Go.Proofs.YtdojmdbaiddkgaaDoorW.PrintLast Go.Proofs.YtdojmdbaiddkgaaDoorW.PrintMore
/-- Signs of names, small letters too. -/
def signS (c : UInt8) : Bool := (line_sign.f ((c.toNat : Nat) : Int) false).getD false
theorem signS_f (c : UInt8) : line_sign.f ((c.toNat : Nat) : Int) false = some (signS c) := by
  unfold signS
  have h : ∃ b, line_sign.f ((c.toNat : Nat) : Int) false = some b := by
    unfold line_sign.f
    repeat' split
    all_goals exact ⟨_, rfl⟩
  obtain ⟨b, hb⟩ := h
  rw [hb]; rfl
/-- How many bytes a name has, of so many at most. -/
def nameEnd (l : List UInt8) (n : Nat) : Nat := ((l.take n).takeWhile signS).length
theorem nameEnd_nil (n : Nat) : nameEnd [] n = 0 := by simp [nameEnd]
theorem nameEnd_zero (l : List UInt8) : nameEnd l 0 = 0 := by simp [nameEnd]
theorem nameEnd_yes (c : UInt8) (t : List UInt8) (n : Nat) (h : signS c = true) : nameEnd (c :: t) (n + 1) = nameEnd t n + 1 := by simp [nameEnd, h]
theorem nameEnd_no (c : UInt8) (t : List UInt8) (n : Nat) (h : signS c = false) : nameEnd (c :: t) (n + 1) = 0 := by simp [nameEnd, h]
def line_reader_name.f (s0_0 : ByteArray) (s0_1 : Int) (s0_2 : Int) : Option (ByteArray × ByteArray × Int × Int) :=
  if s0_2 = 0 ∧ 0 ≤ s0_1 ∧ s0_1 ≤ (s0_0.size : Int) ∧ s0_0.size ≤ 4611686018427387904 then
    (if nameEnd (s0_0.data.toList.drop s0_1.toNat) 60 = 0 then some (⟨#[]⟩, s0_0, s0_1, 5)
     else some (greatS (s0_0.extract s0_1.toNat (s0_1.toNat + nameEnd (s0_0.data.toList.drop s0_1.toNat) 60)), s0_0, ((s0_1.toNat + nameEnd (s0_0.data.toList.drop s0_1.toNat) 60 : Nat) : Int), 0))
  else none
theorem ext_same {s : ByteArray} {b i : Nat} (h : i = b) : greatS (s.extract b i) = ⟨#[]⟩ := by
  subst h
  have : s.extract i i = ⟨#[]⟩ := by
    apply ByteArray.ext
    rw [ByteArray.data_extract, Array.extract_eq_empty_iff.2 (by omega)]
  rw [this]; rfl
theorem name_fin {s : ByteArray} {b i n : Nat} {r1 : ByteArray} {r3 r4 : Int} (hz : n = i - b) (hr : if n = 0 then r1 = ⟨#[]⟩ ∧ r3 = (b : Int) ∧ r4 = 5 else r1 = greatS (s.extract b (b + n)) ∧ r3 = ((b + n : Nat) : Int) ∧ r4 = 0) (hbi : b ≤ i := by omega) :
    (i = b → r1 = ⟨#[]⟩ ∧ r3 = (b : Int) ∧ r4 = 5) ∧ (i ≠ b → r1 = greatS (s.extract b i) ∧ r3 = (i : Int) ∧ r4 = 0) := by
  refine ⟨fun h => ?_, fun h => ?_⟩
  · rw [if_pos (by omega)] at hr; exact hr
  · rw [if_neg (by omega), show b + n = i by omega] at hr; exact hr
set_option maxHeartbeats 8000000 in
set_option maxRecDepth 100000 in
theorem name_walk (g : Nat) (s : ByteArray) (b : Nat) (w0 w : World) (hG : GG w0) (hI : IsS82 w0 w g s b 0) (hB : Below w0.heap.size w0 w) (hb : b ≤ s.size) (hs : s.size ≤ 4611686018427387904) (r1 : ByteArray) (r3 r4 : Int)
    (hr : Aside0 (if nameEnd (s.data.toList.drop b) 60 = 0 then r1 = ⟨#[]⟩ ∧ r3 = (b : Int) ∧ r4 = 5 else r1 = greatS (s.extract b (b + nameEnd (s.data.toList.drop b) 60)) ∧ r3 = ((b + nameEnd (s.data.toList.drop b) 60 : Nat) : Int) ∧ r4 = 0)) :
    Calls Tryd.prog 32 #[.pointer (some ⟨g, 0, none⟩)] w fun e w' => e = .returned (.string r1) ∧ IsS82 w0 w' g s r3 r4 ∧ Below w0.heap.size w0 w' ∧ KeepBut w w' g none := by
  have HI := Aside0.mk hI
  have HB := Aside0.mk hB
  have HGG := Aside0.mk hG
  have hge := hI.ge
  have hcz0 := cellS82_0 hI.1
  have hcz1 := cellS82_1 hI.1
  have hcz2 := cellS82_2 hI.1
  have hfz1 := blk_frozen hI.1 1
  clear hI hB hG
  go_enter Tryd.func32, Tryd.ntmps32
  go_wp2_with fail
  clear hcz0 hcz1 hcz2 hfz1
  go_loopg [38] 60 (fun g2 v38 wr => ∃ i : Nat, b ≤ i ∧ i ≤ s.size ∧ i - b ≤ 60 ∧ Aside0 (60 ≤ (i - b) + g2) ∧ Aside0 (IsS82 w0 wr g s i 0) ∧ Aside0 (Below w0.heap.size w0 wr) ∧ Aside0 (KeepBut w wr g none) ∧ Aside0 (nameEnd (s.data.toList.drop b) 60 = (i - b) + nameEnd (s.data.toList.drop i) (60 - (i - b))))
  case atStart => exact ⟨b, by omega, hb, by omega, ⟨by omega⟩, HI, HB, ⟨KeepBut.refl _ _ _⟩, ⟨by simp⟩⟩
  case round =>
    obtain ⟨i, hbi, his, hi60, HK, HIr, HBr, HKr, HE⟩ := hrel
    have hcz0 := cellS82_0 HIr.out.1
    have hcz1 := cellS82_1 HIr.out.1
    have hcz2 := cellS82_2 HIr.out.1
    have hfz1 := blk_frozen HIr.out.1 1
    have HL := Aside0.mk HIr.out.lt
    have hsn := signS_f
    have HSN := Aside0.mk hsn
    clear hsn
    have hdb : IntKind.i64.wrap ((i : Int) - (b : Int)) = (i : Int) - (b : Int) := IntWalk.i64_in _ (by omega)
    clear hdb
    by_cases hlt : i < s.size
    · have d1 : decide (i < s.size) = true := decide_eq_true hlt
      by_cases h60 : i - b < 60
      · obtain ⟨c, hc⟩ : ∃ c : UInt8, s[i] = c := ⟨_, rfl⟩
        have hcl := HSN.out c
        have hdr : s.data.toList.drop i = c :: s.data.toList.drop (i + 1) := by
          rw [List.drop_eq_getElem_cons (by simpa using hlt)]; rw [← hc]; rfl
        obtain ⟨r, hr⟩ : ∃ r, r = signS c := ⟨_, rfl⟩
        rw [← hr] at hcl
        have HC := Aside0.mk hcl
        have HD := Aside0.mk (And.intro hdr hr)
        clear hcl hdr
        have d2 : decide ((i : Int) - (b : Int) < 60) = true := decide_eq_true (by omega)
        have d3 : IntKind.i64.wrap ((i : Int) - (b : Int)) = (i : Int) - (b : Int) := IntWalk.i64_in _ (by omega)
        clear hr
        cases r with
        | true =>
          cases gk with
          | zero => exfalso; have := HK.out; omega
          | succ g2 =>
          have HE2 : Aside0 (nameEnd (s.data.toList.drop b) 60 = (i + 1 - b) + nameEnd (s.data.toList.drop (i + 1)) (60 - (i + 1 - b))) := ⟨by
            have e := HE.out
            have e2 : 60 - (i - b) = (60 - (i + 1 - b)) + 1 := by omega
            rw [HD.out.1, e2, nameEnd_yes c _ _ HD.out.2.symm] at e
            rw [e]; omega⟩
          go_wp2_with fail
          go_quiet ((go_at_call 45; exact Calls.quiet_of ((line_sign.calls _ _ true _ (HGG.out.below (pw_below_drewN HBr.out _)) HC.out).mono fun e w' h => ⟨h.1, h.2.out⟩)))
          go_wp2_with fail
          go_roundg g2
          case measure => have := HK.out; omega
          case rel => exact ⟨i + 1, by omega, by omega, by omega, ⟨by have := HK.out; omega⟩, ⟨by first | exact (HIr.out.drewN _).set_1 _ | (have h9 := (HIr.out.drewN 0).set_1 ((i : Int) + 1); exact h9)⟩, ⟨below_set (pw_below_drewN HBr.out _) hge⟩, ⟨(keep_drewN HKr.out _).set_ _ _⟩, HE2⟩
        | false =>
          have HZ : Aside0 (nameEnd (s.data.toList.drop b) 60 = i - b) := ⟨by
            have e := HE.out
            have e2 : 60 - (i - b) = (60 - (i + 1 - b)) + 1 := by omega
            rw [HD.out.1, e2, nameEnd_no c _ _ HD.out.2.symm] at e
            omega⟩
          go_wp2_with fail
          go_quiet ((go_at_call 45; exact Calls.quiet_of ((line_sign.calls _ _ false _ (HGG.out.below (pw_below_drewN HBr.out _)) HC.out).mono fun e w' h => ⟨h.1, h.2.out⟩)))
          have HX : Aside0 ((s.extract b i).size ≤ 9223372036854775807) := ⟨by rw [ByteArray.size_extract]; omega⟩
          have HR := Aside0.mk (name_fin HZ.out hr.out)
          by_cases e0 : i = b
          · obtain ⟨rfl, rfl, rfl⟩ := HR.out.1 e0
            have HE0 := Aside0.mk e0
            have hii : (i : Int) = (b : Int) := by omega
            have hib : ((i : Int) == (b : Int)) = true := beq_iff_eq.2 hii
            clear hii e0
            go_wp2_with (go_at_call 35; refine (line_reader_wrong.calls g s i 0 5 i s i 5 w0 _ HGG.out (HIr.out.drewN _) (pw_below_drewN HBr.out _) rfl).mono ?_; rintro e w2 ⟨rfl, hI2, hB2, hK2⟩)
            have HI2 := Aside0.mk hI2
            have HB2 := Aside0.mk hB2
            have HK2 := Aside0.mk ((keep_drewN HKr.out _).trans hK2 (.inl rfl))
            clear hI2 hB2 hK2 hcz0 hcz1 hcz2 hfz1
            have HL := Aside0.mk HI2.out.lt
            have hcz0 := cellS82_0 HI2.out.1
            have hcz1 := cellS82_1 HI2.out.1
            have hcz2 := cellS82_2 HI2.out.1
            go_wp2_with fail
            go_region_held3 (fun w' => w'.cell? ⟨g, 0, none⟩ = some (.string s) ∧ w'.cell? ⟨g, 1, none⟩ = some (.int .i64 i)) (first | go_keep | exact ⟨(hB3.cell (p := ⟨g, 0, none⟩) HL.out).trans hcz0, (hB3.cell (p := ⟨g, 1, none⟩) HL.out).trans hcz1⟩) (first | (go_at_call 37; refine (great_walk (s.extract b i) _ HX.out).mono ?_; rintro e w3 ⟨rfl, hB3⟩))
            have HB3 := Aside0.mk hB3
            clear hB3
            go_wp2_with fail
            go_ret
            refine ⟨by rw [ext_same HE0.out]; rfl, ?_, ?_, ?_⟩
            · rw [← HE0.out]; exact (HI2.out.drewN _).below HB3.out
            · exact (pw_below_drewN HB2.out _).trans (HB3.out.mono (pw_below_drewN HB2.out _).size)
            · exact (keep_drewN HK2.out _).trans (KeepBut.of_below HB3.out g none) (.inl rfl)
          · obtain ⟨rfl, rfl, rfl⟩ := HR.out.2 e0
            have hib : ((i : Int) == (b : Int)) = false := beq_eq_false_iff_ne.2 (by omega)
            go_wp2_with fail
            go_region_held3 (fun w' => w'.cell? ⟨g, 0, none⟩ = some (.string s) ∧ w'.cell? ⟨g, 1, none⟩ = some (.int .i64 i)) (first | go_keep | exact ⟨(hB3.cell (p := ⟨g, 0, none⟩) HL.out).trans hcz0, (hB3.cell (p := ⟨g, 1, none⟩) HL.out).trans hcz1⟩) (first | (go_at_call 37; refine (great_walk (s.extract b i) _ HX.out).mono ?_; rintro e w3 ⟨rfl, hB3⟩))
            have HB3 := Aside0.mk hB3
            clear hB3
            go_wp2_with fail
            go_ret
            exact ⟨rfl, (HIr.out.drewN _).below HB3.out, (pw_below_drewN HBr.out _).trans (HB3.out.mono (pw_below_drewN HBr.out _).size), (keep_drewN HKr.out _).trans (KeepBut.of_below HB3.out g none) (.inl rfl)⟩
      · have HZ : Aside0 (nameEnd (s.data.toList.drop b) 60 = i - b) := ⟨by
          have e := HE.out
          have e2 : 60 - (i - b) = 0 := by omega
          rw [e2, nameEnd_zero (s.data.toList.drop i)] at e
          omega⟩
        have d2 : decide ((i : Int) - (b : Int) < 60) = false := decide_eq_false (by omega)
        have d3 : IntKind.i64.wrap ((i : Int) - (b : Int)) = (i : Int) - (b : Int) := IntWalk.i64_in _ (by omega)
        go_wp2_with fail
        go_quiet (fail)
        have HX : Aside0 ((s.extract b i).size ≤ 9223372036854775807) := ⟨by rw [ByteArray.size_extract]; omega⟩
        have HR := Aside0.mk (name_fin HZ.out hr.out)
        by_cases e0 : i = b
        · obtain ⟨rfl, rfl, rfl⟩ := HR.out.1 e0
          have HE0 := Aside0.mk e0
          have hii : (i : Int) = (b : Int) := by omega
          have hib : ((i : Int) == (b : Int)) = true := beq_iff_eq.2 hii
          clear hii e0
          go_wp2_with (go_at_call 35; refine (line_reader_wrong.calls g s i 0 5 i s i 5 w0 _ HGG.out (HIr.out.drewN _) (pw_below_drewN HBr.out _) rfl).mono ?_; rintro e w2 ⟨rfl, hI2, hB2, hK2⟩)
          have HI2 := Aside0.mk hI2
          have HB2 := Aside0.mk hB2
          have HK2 := Aside0.mk ((keep_drewN HKr.out _).trans hK2 (.inl rfl))
          clear hI2 hB2 hK2 hcz0 hcz1 hcz2 hfz1
          have HL := Aside0.mk HI2.out.lt
          have hcz0 := cellS82_0 HI2.out.1
          have hcz1 := cellS82_1 HI2.out.1
          have hcz2 := cellS82_2 HI2.out.1
          go_wp2_with fail
          go_region_held3 (fun w' => w'.cell? ⟨g, 0, none⟩ = some (.string s) ∧ w'.cell? ⟨g, 1, none⟩ = some (.int .i64 i)) (first | go_keep | exact ⟨(hB3.cell (p := ⟨g, 0, none⟩) HL.out).trans hcz0, (hB3.cell (p := ⟨g, 1, none⟩) HL.out).trans hcz1⟩) (first | (go_at_call 37; refine (great_walk (s.extract b i) _ HX.out).mono ?_; rintro e w3 ⟨rfl, hB3⟩))
          have HB3 := Aside0.mk hB3
          clear hB3
          go_wp2_with fail
          go_ret
          refine ⟨by rw [ext_same HE0.out]; rfl, ?_, ?_, ?_⟩
          · rw [← HE0.out]; exact (HI2.out.drewN _).below HB3.out
          · exact (pw_below_drewN HB2.out _).trans (HB3.out.mono (pw_below_drewN HB2.out _).size)
          · exact (keep_drewN HK2.out _).trans (KeepBut.of_below HB3.out g none) (.inl rfl)
        · obtain ⟨rfl, rfl, rfl⟩ := HR.out.2 e0
          have hib : ((i : Int) == (b : Int)) = false := beq_eq_false_iff_ne.2 (by omega)
          go_wp2_with fail
          go_region_held3 (fun w' => w'.cell? ⟨g, 0, none⟩ = some (.string s) ∧ w'.cell? ⟨g, 1, none⟩ = some (.int .i64 i)) (first | go_keep | exact ⟨(hB3.cell (p := ⟨g, 0, none⟩) HL.out).trans hcz0, (hB3.cell (p := ⟨g, 1, none⟩) HL.out).trans hcz1⟩) (first | (go_at_call 37; refine (great_walk (s.extract b i) _ HX.out).mono ?_; rintro e w3 ⟨rfl, hB3⟩))
          have HB3 := Aside0.mk hB3
          clear hB3
          go_wp2_with fail
          go_ret
          exact ⟨rfl, (HIr.out.drewN _).below HB3.out, (pw_below_drewN HBr.out _).trans (HB3.out.mono (pw_below_drewN HBr.out _).size), (keep_drewN HKr.out _).trans (KeepBut.of_below HB3.out g none) (.inl rfl)⟩
    · have HZ : Aside0 (nameEnd (s.data.toList.drop b) 60 = i - b) := ⟨by
        have e := HE.out
        rw [show s.data.toList.drop i = [] from List.drop_eq_nil_of_le (by simp; omega), nameEnd_nil] at e
        omega⟩
      have d1 : decide (i < s.size) = false := decide_eq_false hlt
      go_wp2_with fail
      go_quiet (fail)
      have HX : Aside0 ((s.extract b i).size ≤ 9223372036854775807) := ⟨by rw [ByteArray.size_extract]; omega⟩
      have HR := Aside0.mk (name_fin HZ.out hr.out)
      by_cases e0 : i = b
      · obtain ⟨rfl, rfl, rfl⟩ := HR.out.1 e0
        have HE0 := Aside0.mk e0
        have hii : (i : Int) = (b : Int) := by omega
        have hib : ((i : Int) == (b : Int)) = true := beq_iff_eq.2 hii
        clear hii e0
        go_wp2_with (go_at_call 35; refine (line_reader_wrong.calls g s i 0 5 i s i 5 w0 _ HGG.out (HIr.out.drewN _) (pw_below_drewN HBr.out _) rfl).mono ?_; rintro e w2 ⟨rfl, hI2, hB2, hK2⟩)
        have HI2 := Aside0.mk hI2
        have HB2 := Aside0.mk hB2
        have HK2 := Aside0.mk ((keep_drewN HKr.out _).trans hK2 (.inl rfl))
        clear hI2 hB2 hK2 hcz0 hcz1 hcz2 hfz1
        have HL := Aside0.mk HI2.out.lt
        have hcz0 := cellS82_0 HI2.out.1
        have hcz1 := cellS82_1 HI2.out.1
        have hcz2 := cellS82_2 HI2.out.1
        go_wp2_with fail
        go_region_held3 (fun w' => w'.cell? ⟨g, 0, none⟩ = some (.string s) ∧ w'.cell? ⟨g, 1, none⟩ = some (.int .i64 i)) (first | go_keep | exact ⟨(hB3.cell (p := ⟨g, 0, none⟩) HL.out).trans hcz0, (hB3.cell (p := ⟨g, 1, none⟩) HL.out).trans hcz1⟩) (first | (go_at_call 37; refine (great_walk (s.extract b i) _ HX.out).mono ?_; rintro e w3 ⟨rfl, hB3⟩))
        have HB3 := Aside0.mk hB3
        clear hB3
        go_wp2_with fail
        go_ret
        refine ⟨by rw [ext_same HE0.out]; rfl, ?_, ?_, ?_⟩
        · rw [← HE0.out]; exact (HI2.out.drewN _).below HB3.out
        · exact (pw_below_drewN HB2.out _).trans (HB3.out.mono (pw_below_drewN HB2.out _).size)
        · exact (keep_drewN HK2.out _).trans (KeepBut.of_below HB3.out g none) (.inl rfl)
      · obtain ⟨rfl, rfl, rfl⟩ := HR.out.2 e0
        have hib : ((i : Int) == (b : Int)) = false := beq_eq_false_iff_ne.2 (by omega)
        go_wp2_with fail
        go_region_held3 (fun w' => w'.cell? ⟨g, 0, none⟩ = some (.string s) ∧ w'.cell? ⟨g, 1, none⟩ = some (.int .i64 i)) (first | go_keep | exact ⟨(hB3.cell (p := ⟨g, 0, none⟩) HL.out).trans hcz0, (hB3.cell (p := ⟨g, 1, none⟩) HL.out).trans hcz1⟩) (first | (go_at_call 37; refine (great_walk (s.extract b i) _ HX.out).mono ?_; rintro e w3 ⟨rfl, hB3⟩))
        have HB3 := Aside0.mk hB3
        clear hB3
        go_wp2_with fail
        go_ret
        exact ⟨rfl, (HIr.out.drewN _).below HB3.out, (pw_below_drewN HBr.out _).trans (HB3.out.mono (pw_below_drewN HBr.out _).size), (keep_drewN HKr.out _).trans (KeepBut.of_below HB3.out g none) (.inl rfl)⟩
theorem line_reader_name.calls (g : Nat) (s0_0 : ByteArray) (s0_1 : Int) (s0_2 : Int) (r1 : ByteArray) (r2 : ByteArray) (r3 : Int) (r4 : Int) (w0 w : World) (hG : GG w0) (hI : IsS82 w0 w g s0_0 s0_1 s0_2) (hB : Below w0.heap.size w0 w) (h : line_reader_name.f s0_0 s0_1 s0_2 = some (r1, r2, r3, r4)) :
    Calls Tryd.prog 32 #[.pointer (some ⟨g, 0, none⟩)] w fun e w' => e = .returned (.string r1) ∧ IsS82 w0 w' g r2 r3 r4 ∧ Below w0.heap.size w0 w' ∧ KeepBut w w' g none := by
  unfold line_reader_name.f at h
  by_cases hc : s0_2 = 0 ∧ 0 ≤ s0_1 ∧ s0_1 ≤ (s0_0.size : Int) ∧ s0_0.size ≤ 4611686018427387904
  · rw [if_pos hc] at h
    obtain ⟨rfl, h0, h1, h2⟩ := hc
    obtain ⟨b, rfl⟩ : ∃ b : Nat, s0_1 = (b : Int) := ⟨s0_1.toNat, by omega⟩
    rw [Int.toNat_natCast] at h
    by_cases hn : nameEnd (s0_0.data.toList.drop b) 60 = 0
    · rw [if_pos hn] at h
      simp only [Option.some.injEq, Prod.mk.injEq] at h
      obtain ⟨rfl, rfl, rfl, rfl⟩ := h
      exact name_walk g s0_0 b w0 w hG hI hB (by omega) h2 _ _ _ ⟨by rw [if_pos hn]; exact ⟨rfl, rfl, rfl⟩⟩
    · rw [if_neg hn] at h
      simp only [Option.some.injEq, Prod.mk.injEq] at h
      obtain ⟨rfl, rfl, rfl, rfl⟩ := h
      exact name_walk g s0_0 b w0 w hG hI hB (by omega) h2 _ _ _ ⟨by rw [if_neg hn]; exact ⟨rfl, rfl, rfl⟩⟩
  · rw [if_neg hc] at h; cases h
end Go.Proofs.YtdojmdbaiddkgaaDoor.Print
end
section
set_option linter.unusedVariables false
set_option linter.unusedSimpArgs false
namespace Go.Proofs.YtdojmdbaiddkgaaDoor.Print
open Go.RowKit Go.Proofs.YtdojmdbaiddkgaaDoorW.PrintWords Go.Proofs.YtdojmdbaiddkgaaDoorW.PrintLast Go.Proofs.YtdojmdbaiddkgaaDoorW.PrintMore
theorem pblk_cell {w : World} {g : Nat} {cs : Array Value} {t : TypeId} {fr : Nat × Nat} (h : w.heap[g]? = some (.cells cs t fr)) (j : Nat) : w.cell? ⟨g, j, none⟩ = cs[j]? := by simp [World.cell?, h]
theorem pblk_froz {w : World} {g : Nat} {cs : Array Value} {t : TypeId} (h : w.heap[g]? = some (.cells cs t (0, 0))) (j : Nat) : w.frozen? ⟨g, j, none⟩ = false := by simp [World.frozen?, h]
theorem blkA {w : World} {g : Nat} {x : Obj} (hx : w.heap[g]? = some x) (o : Obj) : (w.alloc o).heap[g]? = some x := by
  rw [Below.heap_alloc _ _ _ (Array.getElem?_eq_some_iff.1 hx).1]; exact hx
/-- A block that was there stays under what changes a state alone. -/
theorem keepBlk {w w' : World} {g b : Nat} {o : Obj} (hk : KeepBut w w' g none) (h : w.heap[b]? = some o) (hne : b ≠ g) : w'.heap[b]? = some o := (hk.2 b (Array.getElem?_eq_some_iff.1 h).1 hne (by simp)).trans h
/-- Where the reading of parameters stands. -/
structure PSt (w : World) (g L R0 : Nat) (nm vl : ByteArray) (l : List S59) (s1 : ByteArray) (a fl : Int) (v : Value) (wr : World) : Prop where
  st : IsS82 w wr g s1 a fl
  bel : Below w.heap.size w wr
  res : wr.heap[R0]? = some (.cells #[.string ⟨#[]⟩, .slice none 0 0, .string ⟨#[]⟩] 37 (0, 0))
  loc : wr.heap[L]? = some (.cells #[.string nm, v, .string vl] 37 (0, 0))
  row : Kd.S k59 59 wr w.heap.size (fun _ => True) v l
  hL : w.heap.size ≤ L
  hR : w.heap.size ≤ R0
  ne : L ≠ g ∧ R0 ≠ g ∧ R0 ≠ L
theorem typesB : ∀ q, q ∈ 59 :: k59.E → q ≠ 82 := by decide
theorem typesL : ∀ q, q ∈ 59 :: k59.E → q ≠ 37 := by decide
theorem PSt.set_at {w : World} {g L R0 : Nat} {nm vl : ByteArray} {l : List S59} {s1 : ByteArray} {a fl : Int} {v : Value} {wr : World} (h : PSt w g L R0 nm vl l s1 a fl v wr) (b : Int) : PSt w g L R0 nm vl l s1 b fl v (wr.setCell ⟨g, 1, none⟩ (.int .i64 b)) :=
  ⟨h.st.set_1 b, below_set h.bel h.st.ge, by rw [Below.heap_setCell _ _ _ _ (by show R0 ≠ g; exact h.ne.2.1)]; exact h.res, by rw [Below.heap_setCell _ _ _ _ (by show L ≠ g; exact h.ne.1)]; exact h.loc, Kd.S_set h.row h.st.1 typesB 1 _, h.hL, h.hR, h.ne⟩
theorem PSt.drewN {w : World} {g L R0 : Nat} {nm vl : ByteArray} {l : List S59} {s1 : ByteArray} {a fl : Int} {v : Value} {wr : World} (h : PSt w g L R0 nm vl l s1 a fl v wr) (m : Nat) : PSt w g L R0 nm vl l s1 a fl v (wr.drewN m) :=
  ⟨h.st.drewN m, pw_below_drewN h.bel m, h.res, h.loc, Kd.S_drewN h.row m, h.hL, h.hR, h.ne⟩
theorem PSt.keep {w : World} {g L R0 : Nat} {nm vl : ByteArray} {l : List S59} {s1 s2 : ByteArray} {a fl a2 fl2 : Int} {v : Value} {wr w2 : World} (h : PSt w g L R0 nm vl l s1 a fl v wr) (hI : IsS82 w w2 g s2 a2 fl2) (hB : Below w.heap.size w w2) (hK : KeepBut wr w2 g none) : PSt w g L R0 nm vl l s2 a2 fl2 v w2 :=
  ⟨hI, hB, keepBlk hK h.res h.ne.2.1, keepBlk hK h.loc h.ne.1, Kd.S_mono (Kd.S_keep (Kd.S_types h.row h.st.1 typesB) hK (fun _ hk => hk.2)) (fun _ _ => trivial), h.hL, h.hR, h.ne⟩
theorem PSt.below {w : World} {g L R0 : Nat} {nm vl : ByteArray} {l : List S59} {s1 : ByteArray} {a fl : Int} {v : Value} {wr w2 : World} (h : PSt w g L R0 nm vl l s1 a fl v wr) (hb : Below wr.heap.size wr w2) : PSt w g L R0 nm vl l s1 a fl v w2 :=
  h.keep (h.st.below hb) (h.bel.trans (hb.mono h.bel.size)) (KeepBut.of_below hb g none)
theorem PSt.setVal {w : World} {g L R0 : Nat} {nm vl : ByteArray} {l : List S59} {s1 : ByteArray} {a fl : Int} {v : Value} {wr : World} (h : PSt w g L R0 nm vl l s1 a fl v wr) (u : ByteArray) : PSt w g L R0 nm u l s1 a fl v (wr.setCell ⟨L, 2, none⟩ (.string u)) := by
  refine ⟨h.st.far (Ne.symm h.ne.1) _, h.bel.setCell (p := ⟨L, 2, none⟩) h.hL _, ?_, ?_, Kd.S_set h.row h.loc typesL 2 _, h.hL, h.hR, h.ne⟩
  · rw [Below.heap_setCell _ _ _ _ (by show R0 ≠ L; exact h.ne.2.2)]; exact h.res
  · have : (wr.setCell ⟨L, 2, none⟩ (.string u)).heap[L]? = some (.cells (#[.string nm, v, .string vl].setIfInBounds 2 (.string u)) 37 (0, 0)) := by
      simp [World.setCell, Array.getElem?_modify, h.loc]
    rw [this]; rfl
set_option maxHeartbeats 8000000 in
set_option maxRecDepth 100000 in
theorem parse0_walk (k : Nat) (s : ByteArray) (w : World) (hs : ¬ s.size > 2000) (hG : GG w) (hv : utf8_ValidString.f s = some true) (nm : ByteArray) (b : Nat) (hn : line_reader_name.f s 0 0 = some (nm, s, (b : Int), 0))
    (hp : line_reader_peek.f s (b : Int) 0 = some (58, s, (b : Int), 0)) (hbs : b < s.size) (hz : escape_Clean.f k (s.extract (b + 1) s.size) false = some 0) :
    Calls Tryd.prog 25 #[.string s] w fun e w' => e = .returned (.tuple #[.agg #[.string nm, .slice none 0 0, .string (s.extract (b + 1) s.size)], .int .i64 0, .int .i64 0]) ∧ Below w.heap.size w w' := by
  have d1 : decide ((s.size : Int) > 2000) = false := decide_eq_false (by omega)
  have HV := Aside0.mk hv
  have HN := Aside0.mk hn
  have HPK := Aside0.mk hp
  have HZ := Aside0.mk hz
  have HGG := Aside0.mk hG
  have hnot : ∀ (x : Bool) (w : World), (Op.unary .not (.bool x)).run Tryd.prog w = .ok (.bool (!x)) w := fun _ _ => rfl
  clear hv hn hp hz hG
  go_enter Tryd.func25, Tryd.ntmps25
  go_wp2_with fail
  go_at_call 31
  refine (utf8_ValidString.calls s true _ (HGG.out.alloc _) HV.out).mono ?_
  rintro e w2 ⟨rfl, hB⟩
  have HB := Aside0.mk (((below_alloc (Below.refl w.heap.size w) _).trans (hB.mono (by simp))))
  have hblk := (hB.block w.heap.size (by simp)).trans (heap_alloc_new w _)
  obtain ⟨R0, hR0⟩ : ∃ R0, R0 = w.heap.size := ⟨_, rfl⟩
  rw [← hR0] at hblk ⊢
  have HR0 := Aside0.mk hR0
  have HRB := Aside0.mk hblk
  have hlt2 : R0 < w2.heap.size := (Array.getElem?_eq_some_iff.1 hblk).1
  clear hB hblk hR0
  go_wp2_with fail
  go_at_call 32
  obtain ⟨g, hg⟩ : ∃ g, g = w2.heap.size := ⟨_, rfl⟩
  have hI0 := IsS82.new w w2 s 0 0 HB.out
  have hB0 := HB.out.alloc HB.out.size (.cells #[.string s, .int .i64 0, .int .i64 0] 82)
  have hRB0 := blkA HRB.out (.cells #[.string s, .int .i64 0, .int .i64 0] 82)
  rw [← hg] at hI0 ⊢
  have HGs := Aside0.mk hg
  refine (line_reader_name.calls g s 0 0 nm s b 0 w _ HGG.out hI0 hB0 HN.out).mono ?_
  rintro e w3 ⟨rfl, hI3, hB3, hK3⟩
  have HI3 := Aside0.mk hI3
  have HB3 := Aside0.mk hB3
  have HRB3 := Aside0.mk (keepBlk hK3 hRB0 (by omega))
  have hlt3 : g < w3.heap.size := hI3.lt
  clear hI0 hB0 hRB0 hI3 hB3 hK3 hg
  go_wp2_with fail
  obtain ⟨L, hL⟩ : ∃ L, L = w3.heap.size := ⟨_, rfl⟩
  have HP0 : Aside0 (PSt w g L R0 nm ⟨#[]⟩ [] s b 0 (.slice none 0 0) (w3.alloc (.cells #[.string nm, .slice none 0 0, .string ⟨#[]⟩] 37))) := ⟨by
    have hsz := HB3.out.size
    refine ⟨HI3.out.alloc _, HB3.out.alloc hsz _, blkA HRB3.out _, by rw [hL]; exact heap_alloc_new _ _, Kd.S_nil _ _ _ _ _, by omega, by have := HR0.out; omega, by omega, by have := HGs.out; omega, by have := HGs.out; omega⟩⟩
  rw [← hL] at ⊢
  clear hL
  go_loopg [25] 0 (fun kk v25 wr => Aside0 (PSt w g L R0 nm ⟨#[]⟩ [] s b 0 (.slice none 0 0) wr))
  case atStart => exact HP0
  case round =>
    have HP := hrel
    clear HP0
    have hst := HP.out.st
    go_wp2_with fail
    go_at_call 33
    refine (line_reader_peek.calls g s b 0 58 s b 0 w _ HGG.out HP.out.st HP.out.bel HPK.out).mono ?_
    rintro e w4 ⟨rfl, hI4, hB4, hK4⟩
    have HP4 := Aside0.mk (HP.out.keep hI4 hB4 hK4)
    have hcz1 := cellS82_1 hI4.1
    have hcz2 := cellS82_2 hI4.1
    have hfz1 := blk_frozen hI4.1 1
    clear hI4 hB4 hK4 hst
    have hLc := pblk_cell HP4.out.loc 2
    go_wp2_with (go_at_call 33; refine (line_reader_peek.calls g s b 0 58 s b 0 w _ HGG.out HP4.out.st HP4.out.bel HPK.out).mono ?_; rintro e w5 ⟨rfl, hI5, hB5, hK5⟩; have HP5 := Aside0.mk (HP4.out.keep hI5 hB5 hK5); have k1 := cellS82_1 hI5.1; have k2 := cellS82_2 hI5.1; have kf := blk_frozen hI5.1 1; have l2 := pblk_cell HP5.out.loc 2; have lf := pblk_froz HP5.out.loc 2; have hLg := HP5.out.ne.1; clear hI5 hB5 hK5)
    have HP7 := Aside0.mk ((HP5.out.set_at ((b : Int) + 1)).setVal (s.extract (b + 1) s.size))
    obtain ⟨W7, hW7⟩ : ∃ W7, W7 = (w5.setCell ⟨g, 1, none⟩ (.int .i64 ((b : Int) + 1))).setCell ⟨L, 2, none⟩ (.string (s.extract (b + 1) s.size)) := ⟨_, rfl⟩
    rw [← hW7] at HP7 ⊢
    clear hW7 k1 k2 kf l2 lf
    go_at_call 36
    refine (escape_Clean.calls k _ false 0 W7 (HGG.out.below HP7.out.bel) HZ.out).mono ?_
    rintro e w8 ⟨rfl, hB8⟩
    have HP8 := Aside0.mk (HP7.out.below hB8)
    clear hB8
    have k1 := cellS82_1 HP8.out.st.1
    have k2 := cellS82_2 HP8.out.st.1
    have l0 := pblk_cell HP8.out.loc 0
    have l1 := pblk_cell HP8.out.loc 1
    have l2 := pblk_cell HP8.out.loc 2
    have r0 := pblk_cell HP8.out.res 0
    have r1 := pblk_cell HP8.out.res 1
    have r2 := pblk_cell HP8.out.res 2
    have z0 := pblk_froz HP8.out.res 0
    have z1 := pblk_froz HP8.out.res 1
    have z2 := pblk_froz HP8.out.res 2
    go_wp2_with fail
    refine bodyPost_ret (v := .tuple #[.agg #[.string nm, .slice none 0 0, .string (s.extract (b + 1) s.size)], .int .i64 0, .int .i64 0]) (by simp [results, Tryd.results25, go_sem, r0, r1, r2]) rfl ⟨rfl, ?_⟩
    repeat (first | exact HP8.out.bel | refine Below.setCell ?_ (by exact HP8.out.hR) _)
end Go.Proofs.YtdojmdbaiddkgaaDoor.Print
end
section
namespace Go.Proofs.YtdojmdbaiddkgaaDoor.Print
open Go.RowKit Go.Proofs.YtdojmdbaiddkgaaDoorW.PrintWords Go.Proofs.YtdojmdbaiddkgaaDoorW.PrintLast Go.Proofs.YtdojmdbaiddkgaaDoorW.PrintMore
set_option linter.unusedVariables false
set_option linter.unusedSimpArgs false
def line_Name.l0 : Nat → ByteArray → Int → Int → Option (Bool)
 | 0, _, _, _ => none
 | k + 1, x0, x5, x6 => if x6 < x5 then (if 0 ≤ x6 then (if x6 < (x0.size : Int) then ((line_sign.f (bt x0 x6) true).bind fun t127 => (if t127 = true then (line_Name.l0 k x0 x5 (wrap64 (x6 + 1))) else (some false))) else (none)) else (none)) else (if (x0.size : Int) ≥ 1 then (some (decide ((x0.size : Int) ≤ 60))) else (some false))
def line_Name.f (k : Nat) (a0 : ByteArray) : Option (Bool) := line_Name.l0 k a0 (a0.size : Int) 0
set_option maxHeartbeats 8000000 in
set_option maxRecDepth 100000 in
theorem line_Name.calls (k : Nat) (a0 : ByteArray) (r : Bool) (w : World) (hG : GG w) (h : line_Name.f k a0 = some r) :
  Calls Tryd.prog 39 #[.string a0] w fun e w' => e = .returned (.bool r) ∧ Drawn0 w w' := by
 have H : (line_Name.l0 k a0 (a0.size : Int) 0) = some r := h; clear h; have H' := Aside0.mk H; clear H
 go_enter Tryd.func39, Tryd.ntmps39
 go_wp2
 go_loopg [6] k (fun kq v6 w' => ∃ (x6_1 : Int), v6 = .int .i64 x6_1 ∧ Aside0 (line_Name.l0 kq a0 (a0.size : Int) x6_1 = some r) ∧ Aside0 (kq ≤ k) ∧ Drawn0 w w')
 case atStart => exact ⟨(0), zS, H', ⟨Nat.le_refl _⟩, zD⟩
 case round =>
  clear H'; obtain ⟨x6_1, rfl, HA, HK1, ⟨m1, rfl⟩⟩ := hrel
  cases gk with
  | zero => exact absurd HA.out (by simp [line_Name.l0])
  | succ k1 =>
   have H := HA.out; clear HA; simp only [line_Name.l0] at H; replace H := zId H; rcases H with ⟨-, c2b0, H⟩ | ⟨-, c2b0, H⟩
   ·replace H := zJd H; obtain ⟨-, c3b0, H⟩ := H; replace H := zJd H; obtain ⟨-, c4b0, H⟩ := H; replace H := Option.bind_eq_some_iff.mp H; obtain ⟨t127, A60, H⟩ := H; replace H : (if t127 = true then (line_Name.l0 k1 a0 (a0.size : Int) (wrap64 (x6_1 + 1))) else (some false)) = some r := H; have A6 := Aside0.mk A60; clear A60; replace H := zIb H; rcases H with ⟨rfl, H⟩ | ⟨rfl, H⟩
    ·have H' := Aside0.mk H; clear H; have p5 := zP (0 ≤ (x6_1 : Int)); have q5 := zP (x6_1 < (a0.size : Int)); have hx5 := bt_at a0 x6_1
     go_wp2_with (first | ((with_reducible refine gate_callee (f := 45) rfl ?_); refine goesL_ (some 12) rfl rfl Tryd.func45 (by kernel_rfl) rfl #[.int .u8 (bt a0 x6_1), .bool true] rfl zA ?_; (with_reducible refine (line_sign.calls (bt a0 x6_1) true true _ zG2 A6.out).mono ?_); rintro e w' ⟨rfl, ⟨nd, rfl⟩⟩; refine ⟨_, rfl, ?_⟩))
     go_roundg k1
     case measure => have := HK1.out; omega
     case rel => exact ⟨(wrap64 (x6_1 + 1)), zS, H', ⟨by have := HK1.out; omega⟩, zD⟩
    ·obtain rfl := Option.some.inj H; have p5 := zP (0 ≤ (x6_1 : Int)); have q5 := zP (x6_1 < (a0.size : Int)); have hx5 := bt_at a0 x6_1
     go_wp2_with (first | ((with_reducible refine gate_callee (f := 45) rfl ?_); refine goesL_ (some 12) rfl rfl Tryd.func45 (by kernel_rfl) rfl #[.int .u8 (bt a0 x6_1), .bool true] rfl zA ?_; (with_reducible refine (line_sign.calls (bt a0 x6_1) true false _ zG2 A6.out).mono ?_); rintro e w' ⟨rfl, ⟨nd, rfl⟩⟩; refine ⟨_, rfl, ?_⟩))
     go_ret; exact ⟨zS, zD⟩
   ·replace H := zI H; rcases H with ⟨c8, H⟩ | ⟨c8, H⟩
    ·have c8b0 : decide (1 ≤ (a0.size : Int)) = true := decide_eq_true c8; have c8b1 : decide (1 ≤ a0.size) = true := decide_eq_true (by omega); clear c8; obtain rfl := Option.some.inj H; go_wp2; go_ret; exact ⟨zS, zD⟩
    ·have c8b0 : decide (1 ≤ (a0.size : Int)) = false := decide_eq_false c8; have c8b1 : decide (1 ≤ a0.size) = false := decide_eq_false (by omega); clear c8; obtain rfl := Option.some.inj H; go_wp2; go_ret; exact ⟨zS, zD⟩
end Go.Proofs.YtdojmdbaiddkgaaDoor.Print
end
section
set_option linter.unusedVariables false
set_option linter.unusedSimpArgs false
namespace Go.Proofs.YtdojmdbaiddkgaaDoor.Print
open Go.RowKit Go.Proofs.YtdojmdbaiddkgaaDoorW.PrintWords Go.Proofs.YtdojmdbaiddkgaaDoorW.PrintLast Go.Proofs.YtdojmdbaiddkgaaDoorW.PrintMore
abbrev tBegin : ByteArray := ⟨#[66, 69, 71, 73, 78]⟩
abbrev tEnd : ByteArray := ⟨#[69, 78, 68]⟩
abbrev tA : ByteArray := ⟨#[65]⟩
theorem unfoldA : fold_Unfold.f 40 ⟨#[66, 69, 71, 73, 78, 58, 65, 13, 10, 69, 78, 68, 58, 65, 13, 10]⟩ = some ([⟨#[66, 69, 71, 73, 78, 58, 65]⟩, ⟨#[69, 78, 68, 58, 65]⟩], 0, 0) := by decide +kernel
theorem parseB (w : World) (hG : GG w) : Calls Tryd.prog 25 #[.string ⟨#[66, 69, 71, 73, 78, 58, 65]⟩] w fun e w' => e = .returned (.tuple #[.agg #[.string tBegin, .slice none 0 0, .string tA], .int .i64 0, .int .i64 0]) ∧ Below w.heap.size w w' := by
  have h := parse0_walk 20 ⟨#[66, 69, 71, 73, 78, 58, 65]⟩ w (by decide) hG (by decide +kernel) tBegin 5 (by decide +kernel) (by decide +kernel) (by decide) (by decide +kernel)
  rw [show (ByteArray.extract ⟨#[66, 69, 71, 73, 78, 58, 65]⟩ (5 + 1) (ByteArray.size ⟨#[66, 69, 71, 73, 78, 58, 65]⟩)) = tA by decide +kernel] at h
  exact h
theorem parseE (w : World) (hG : GG w) : Calls Tryd.prog 25 #[.string ⟨#[69, 78, 68, 58, 65]⟩] w fun e w' => e = .returned (.tuple #[.agg #[.string tEnd, .slice none 0 0, .string tA], .int .i64 0, .int .i64 0]) ∧ Below w.heap.size w w' := by
  have h := parse0_walk 20 ⟨#[69, 78, 68, 58, 65]⟩ w (by decide) hG (by decide +kernel) tEnd 3 (by decide +kernel) (by decide +kernel) (by decide) (by decide +kernel)
  rw [show (ByteArray.extract ⟨#[69, 78, 68, 58, 65]⟩ (3 + 1) (ByteArray.size ⟨#[69, 78, 68, 58, 65]⟩)) = tA by decide +kernel] at h
  exact h
theorem own_form1 {w : World} {base : Nat} {v : Value} {a b c : Value} (h : w.ownsRow base 32 3 v 1 [a, b, c]) : ∃ bk cap cur, v = .slice (some ⟨bk, 0, none⟩) 1 cap ∧ base ≤ bk ∧ w.heap[bk]? = some (.cells cur 32 (0, 0)) ∧ cur[0]? = some a ∧ cur[1]? = some b ∧ cur[2]? = some c := by
  rcases h.2 with ⟨_, h0⟩ | ⟨bk, cap, cur, rfl, h1, h2, h3, h4, h5, h6⟩
  · omega
  · have hg : ∀ j, j < 3 → cur[j]? = [a, b, c][j]? := fun j hj => by
      rw [← h6, ← Array.getElem?_toList, List.getElem?_take, if_pos (by omega)]
    exact ⟨bk, cap, cur, rfl, h1, h2, hg 0 (by omega), hg 1 (by omega), hg 2 (by omega)⟩
theorem cur3 {cur : Array Value} {x y z a b c : Value} (q0 : cur[0]? = some x) (q1 : cur[1]? = some y) (q2 : cur[2]? = some z) :
    (((cur.setIfInBounds 0 a).setIfInBounds 1 b).setIfInBounds 2 c)[0]? = some a ∧ (((cur.setIfInBounds 0 a).setIfInBounds 1 b).setIfInBounds 2 c)[1]? = some b ∧ (((cur.setIfInBounds 0 a).setIfInBounds 1 b).setIfInBounds 2 c)[2]? = some c := by
  have hs : 2 < cur.size := (Array.getElem?_eq_some_iff.1 q2).1
  refine ⟨?_, ?_, ?_⟩
  · rw [Array.getElem?_setIfInBounds_ne (by omega), Array.getElem?_setIfInBounds_ne (by omega), Array.getElem?_setIfInBounds_self_of_lt (by omega)]
  · rw [Array.getElem?_setIfInBounds_ne (by omega), Array.getElem?_setIfInBounds_self_of_lt (by rw [Array.size_setIfInBounds]; omega)]
  · rw [Array.getElem?_setIfInBounds_self_of_lt (by rw [Array.size_setIfInBounds, Array.size_setIfInBounds]; omega)]
/-- The reader's state. -/
def Rst (w : World) (g : Nat) (cs : Array Value) : Prop := w.heap[g]? = some (.cells cs 67 (0, 0))
def Opened (w w' : World) (g : Nat) : Prop := ∃ bk cap cur, w.heap.size ≤ bk ∧ Rst w' g #[.slice (some ⟨bk, 0, none⟩) 1 cap, .string ⟨#[]⟩, .slice none 0 0, .slice none 0 0, .bool false] ∧ w'.heap[bk]? = some (.cells cur 32 (0, 0)) ∧ cur[0]? = some (.string tA) ∧ cur[1]? = some (.slice none 0 0) ∧ cur[2]? = some (.slice none 0 0)
set_option maxHeartbeats 1000000 in
set_option maxRecDepth 100000 in
theorem begins_walk (g : Nat) (w : World) (h : Rst w g #[.slice none 0 0, .string ⟨#[]⟩, .slice none 0 0, .slice none 0 0, .bool false]) :
    Calls Tryd.prog 40 #[.pointer (some ⟨g, 0, none⟩), .string tA] w fun e w' => e = .returned (.int .i64 0) ∧ Below g w w' ∧ Opened w w' g := by
  have c0 := pblk_cell h 0
  have f0 := pblk_froz h 0
  have hgl : g < w.heap.size := blk_lt h
  go_enter Tryd.func40, Tryd.ntmps40
  go_wp2_with fail
  go_region_law (refine step_append_cells (w0 := w) (W := w.drew) w.heap.size (by rfl) (.tmp 14) (.tmp 18) 30 32 (.agg #[.string ⟨#[]⟩, .slice none 0 0, .slice none 0 0]) 3 64 (by rfl) Tryd.underlying30 info32 (by rfl) (by decide) (by decide) (.slice none 0 0) 0 [] [.string ⟨#[]⟩, .slice none 0 0, .slice none 0 0] (by rfl) (by rfl) rfl (by intro u hu; simp at hu; rcases hu with rfl | rfl <;> rfl) (own_nil _ _ _ _) (below_drew (Below.refl _ _)) (Nat.le_refl _) (by decide) ?_; intro v1 w1 hown hb hg hat; have HBB := Aside0.mk hb; obtain ⟨bk, cap, cur, rfl, hbk, hcur, q0, q1, q2⟩ := own_form1 hown; have hgk : g ≠ bk := by omega
                 have hg1 : w1.heap[g]? = w.heap[g]? := hg.block g hgl (by simp [Value.ownBlock])
                 have HRg := Aside0.mk (hg1.trans h)
                 have d0 := pblk_cell (hg1.trans h) 0
                 have df := pblk_froz (hg1.trans h) 0
                 have HCU := Aside0.mk hcur
                 have HQ := Aside0.mk (And.intro q0 (And.intro q1 q2))
                 have e0 := (pblk_cell hcur 0).trans q0
                 have e1 := (pblk_cell hcur 1).trans q1
                 have e2 := (pblk_cell hcur 2).trans q2
                 have z0 := pblk_froz hcur 0
                 have z1 := pblk_froz hcur 1
                 have z2 := pblk_froz hcur 2
                 clear hown hb hg hat hg1 hcur q0 q1 q2)
  all_goals
    go_wp2_with fail
    go_ret
    refine ⟨rfl, ?_, bk, cap, ((cur.setIfInBounds 0 (.string tA)).setIfInBounds 1 (.slice none 0 0)).setIfInBounds 2 (.slice none 0 0), hbk, ?_, ?_, ?_, ?_, ?_⟩
    · repeat (first | with_reducible exact (HBB.out.mono (Nat.le_of_lt hgl)) | with_reducible refine Below.setCell (p := ⟨g, _, none⟩) ?_ (show g ≤ g from Nat.le_refl _) _ | with_reducible refine Below.setCell (p := ⟨bk, _, none⟩) ?_ (show g ≤ bk by omega) _)
    · show _ = some (Obj.cells ((#[.slice none 0 0, .string ⟨#[]⟩, .slice none 0 0, .slice none 0 0, .bool false] : Array Value).setIfInBounds 0 (.slice (some ⟨bk, 0, none⟩) 1 cap)) 67 (0, 0))
      repeat (first | with_reducible exact HRg.out | with_reducible refine blk_far (p := ⟨bk, _, none⟩) ?_ (show g ≠ bk from hgk) _ | with_reducible refine blk_set ?_ 0 _)
    · repeat (first | with_reducible exact HCU.out | with_reducible refine blk_far (p := ⟨g, 0, none⟩) ?_ (show bk ≠ g from Ne.symm hgk) _ | with_reducible refine blk_set ?_ _ _)
    · exact (cur3 HQ.out.1 HQ.out.2.1 HQ.out.2.2).1
    · exact (cur3 HQ.out.1 HQ.out.2.1 HQ.out.2.2).2.1
    · exact (cur3 HQ.out.1 HQ.out.2.1 HQ.out.2.2).2.2
end Go.Proofs.YtdojmdbaiddkgaaDoor.Print
end
section
set_option linter.unusedVariables false
set_option linter.unusedSimpArgs false
namespace Go.Proofs.YtdojmdbaiddkgaaDoor.Print
open Go.RowKit Go.Proofs.YtdojmdbaiddkgaaDoorW.PrintWords Go.Proofs.YtdojmdbaiddkgaaDoorW.PrintLast Go.Proofs.YtdojmdbaiddkgaaDoorW.PrintMore
theorem five_cells (w : World) (g : Nat) {x0 x1 x2 x3 x4 : Value} (h : Rst w g #[x0, x1, x2, x3, x4]) (a b c d e : Value) :
    (((((w.setCell ⟨g, 0, none⟩ a).setCell ⟨g, 1, none⟩ b).setCell ⟨g, 2, none⟩ c).setCell ⟨g, 3, none⟩ d).setCell ⟨g, 4, none⟩ e).heap[g]? = some (.cells #[a, b, c, d, e] 67 (0, 0)) := by
  have h5 := blk_set (blk_set (blk_set (blk_set (blk_set h 0 a) 1 b) 2 c) 3 d) 4 e
  rw [h5]; rfl
theorem five_below (w : World) (g : Nat) (a b c d e : Value) (o : Obj) (hg : g < w.heap.size) :
    Below g w ((((((w.setCell ⟨g, 0, none⟩ a).setCell ⟨g, 1, none⟩ b).setCell ⟨g, 2, none⟩ c).setCell ⟨g, 3, none⟩ d).setCell ⟨g, 4, none⟩ e).alloc o) := by
  have hs : ∀ (W : World) (p : Addr) (u : Value), (W.setCell p u).heap.size = W.heap.size := fun W p u => by simp [World.setCell]
  have h1 := ((((((Below.refl g w).setCell (p := ⟨g, 0, none⟩) (Nat.le_refl g) a).setCell (p := ⟨g, 1, none⟩) (Nat.le_refl g) b).setCell (p := ⟨g, 2, none⟩) (Nat.le_refl g) c).setCell (p := ⟨g, 3, none⟩) (Nat.le_refl g) d).setCell (p := ⟨g, 4, none⟩) (Nat.le_refl g) e)
  exact h1.alloc (by rw [hs, hs, hs, hs, hs]; omega) o
set_option maxHeartbeats 1000000 in
set_option maxRecDepth 100000 in
theorem ends_walk (g bk cap : Nat) (cur : Array Value) (w : World) (h : Rst w g #[.slice (some ⟨bk, 0, none⟩) 1 cap, .string ⟨#[]⟩, .slice none 0 0, .slice none 0 0, .bool false]) (hb : w.heap[bk]? = some (.cells cur 32 (0, 0))) (q0 : cur[0]? = some (.string tA)) (q1 : cur[1]? = some (.slice none 0 0)) (q2 : cur[2]? = some (.slice none 0 0)) :
    Calls Tryd.prog 41 #[.pointer (some ⟨g, 0, none⟩), .string tA] w fun e w' => e = .returned (.int .i64 0) ∧ Below g w w' ∧ ∃ v, Rst w' g #[v, .string tA, .slice none 0 0, .slice none 0 0, .bool true] := by
  have c0 := pblk_cell h 0
  have c1 := pblk_cell h 1
  have c2 := pblk_cell h 2
  have c3 := pblk_cell h 3
  have c4 := pblk_cell h 4
  have f0 := pblk_froz h 0
  have f1 := pblk_froz h 1
  have f2 := pblk_froz h 2
  have f3 := pblk_froz h 3
  have f4 := pblk_froz h 4
  have e0 := (pblk_cell hb 0).trans q0
  have e1 := (pblk_cell hb 1).trans q1
  have e2 := (pblk_cell hb 2).trans q2
  have hgl : g < w.heap.size := blk_lt h
  have hbl : bk < w.heap.size := blk_lt hb
  have hgk : g ≠ bk := by rintro rfl; rw [h] at hb; simp at hb
  have hA : (tA.toList != tA.toList) = false := by decide +kernel
  have HRg := Aside0.mk h
  clear h hb q0 q1 q2
  go_enter Tryd.func41, Tryd.ntmps41
  go_wp2
  go_ret
  exact ⟨rfl, five_below w g _ _ _ _ _ _ hgl, .slice (some ⟨bk, 0, none⟩) 0 cap, blk_alloc (five_cells w g HRg.out _ _ _ _ _) _⟩
end Go.Proofs.YtdojmdbaiddkgaaDoor.Print
end
section
set_option linter.unusedVariables false
set_option linter.unusedSimpArgs false
namespace Go.Proofs.YtdojmdbaiddkgaaDoor.Print
open Go.RowKit Go.Proofs.YtdojmdbaiddkgaaDoorW.PrintWords Go.Proofs.YtdojmdbaiddkgaaDoorW.PrintLast Go.Proofs.YtdojmdbaiddkgaaDoorW.PrintMore
theorem greatA : line_Great.f tA = some tA := by decide +kernel
theorem boundB : tree_bound.f tBegin = some true := by decide +kernel
theorem boundE : tree_bound.f tEnd = some true := by decide +kernel
theorem nameA : line_Name.f 5 tA = some true := by decide +kernel
set_option maxHeartbeats 1000000 in
set_option maxRecDepth 100000 in
theorem lineB_walk (g : Nat) (w : World) (hG : GG w) (h : Rst w g #[.slice none 0 0, .string ⟨#[]⟩, .slice none 0 0, .slice none 0 0, .bool false]) :
    Calls Tryd.prog 26 #[.pointer (some ⟨g, 0, none⟩), .agg #[.string tBegin, .slice none 0 0, .string tA]] w fun e w' => e = .returned (.int .i64 0) ∧ Below g w w' ∧ ∃ w1, Opened w1 w' g := by
  have hgl : g < w.heap.size := blk_lt h
  have HG := Aside0.mk hG
  have HR := Aside0.mk h
  have hnot : ∀ (x : Bool) (w : World), (Op.unary .not (.bool x)).run Tryd.prog w = .ok (.bool (!x)) w := fun _ _ => rfl
  have hn1 : (tBegin.toList != tBegin.toList) = false := by decide +kernel
  have hn2 : (tBegin.toList == tBegin.toList) = true := by decide +kernel
  clear hG h
  go_enter Tryd.func26, Tryd.ntmps26
  go_wp2_with fail
  go_at_call 37
  refine (line_Great.calls tA tA _ (GG.below HG.out (by repeat (first | exact Below.refl _ _ | apply below_alloc | apply pw_below_drewN | apply below_drew1))) greatA).mono ?_
  rintro e w2 ⟨rfl, hB⟩
  have HB : Aside0 (Below w.heap.size w w2) := ⟨(below_alloc (Below.refl w.heap.size w) _).trans (hB.mono (by simp))⟩
  have hbox := (hB.block w.heap.size (by simp)).trans (heap_alloc_new w _)
  have hr2 := (HB.out.block g hgl).trans HR.out
  have HR2 := Aside0.mk hr2
  have x0 := pblk_cell hbox 0
  have x1 := pblk_cell hbox 1
  have x2 := pblk_cell hbox 2
  have y0 := pblk_cell hr2 0
  have y4 := pblk_cell hr2 4
  clear hB hbox hr2
  go_wp2_with (first | (go_at_call 38; refine (tree_bound.calls tBegin true _ (by repeat (first | exact GG.below HG.out HB.out | apply GG.drewN | apply GG.drew)) boundB).mono ?_; rintro e w' ⟨rfl, ⟨nd, rfl⟩⟩) | (go_at_call 39; refine (line_Name.calls 5 tA true _ (by repeat (first | exact GG.below HG.out HB.out | apply GG.drewN | apply GG.drew)) nameA).mono ?_; rintro e w' ⟨rfl, ⟨nd, rfl⟩⟩))
  refine (begins_walk g (w2.drewN _) HR2.out).mono ?_
  rintro e w3 ⟨rfl, hB3, hO⟩
  have HB3 : Aside0 (Below g w w3) := ⟨(HB.out.mono (Nat.le_of_lt hgl)).trans ((pw_below_drewN (Below.refl g w2) _).trans hB3)⟩
  have HO := Aside0.mk hO
  clear hB3 hO x0 x1 x2 y0 y4
  go_wp2_with fail
  go_ret
  exact ⟨rfl, HB3.out, _, HO.out⟩
set_option maxHeartbeats 1000000 in
set_option maxRecDepth 100000 in
theorem lineE_walk (g : Nat) (w w1 : World) (hG : GG w) (hO : Opened w1 w g) :
    Calls Tryd.prog 26 #[.pointer (some ⟨g, 0, none⟩), .agg #[.string tEnd, .slice none 0 0, .string tA]] w fun e w' => e = .returned (.int .i64 0) ∧ Below g w w' ∧ ∃ v, Rst w' g #[v, .string tA, .slice none 0 0, .slice none 0 0, .bool true] := by
  obtain ⟨bk, cap, cur, hbk, h, hcur, q0, q1, q2⟩ := hO
  have hbl : bk < w.heap.size := blk_lt hcur
  have HCU := Aside0.mk hcur
  have HQ := Aside0.mk (And.intro q0 (And.intro q1 q2))
  clear hbk hcur q0 q1 q2
  have hgl : g < w.heap.size := blk_lt h
  have HG := Aside0.mk hG
  have HR := Aside0.mk h
  have hnot : ∀ (x : Bool) (w : World), (Op.unary .not (.bool x)).run Tryd.prog w = .ok (.bool (!x)) w := fun _ _ => rfl
  have hn1 : (tEnd.toList != tBegin.toList) = true := by decide +kernel
  have hn2 : (tEnd.toList == tBegin.toList) = false := by decide +kernel
  have hn3 : (tEnd.toList == tEnd.toList) = true := by decide +kernel
  clear hG h
  go_enter Tryd.func26, Tryd.ntmps26
  go_wp2_with fail
  go_at_call 37
  refine (line_Great.calls tA tA _ (GG.below HG.out (by repeat (first | exact Below.refl _ _ | apply below_alloc | apply pw_below_drewN | apply below_drew1))) greatA).mono ?_
  rintro e w2 ⟨rfl, hB⟩
  have HB : Aside0 (Below w.heap.size w w2) := ⟨(below_alloc (Below.refl w.heap.size w) _).trans (hB.mono (by simp))⟩
  have hbox := (hB.block w.heap.size (by simp)).trans (heap_alloc_new w _)
  have hr2 := (HB.out.block g hgl).trans HR.out
  have HR2 := Aside0.mk hr2
  have x0 := pblk_cell hbox 0
  have x1 := pblk_cell hbox 1
  have x2 := pblk_cell hbox 2
  have y0 := pblk_cell hr2 0
  have y4 := pblk_cell hr2 4
  clear hB hbox hr2
  go_wp2_with (first | (go_at_call 38; refine (tree_bound.calls tEnd true _ (by repeat (first | exact GG.below HG.out HB.out | apply GG.drewN | apply GG.drew)) boundE).mono ?_; rintro e w' ⟨rfl, ⟨nd, rfl⟩⟩) | (go_at_call 39; refine (line_Name.calls 5 tA true _ (by repeat (first | exact GG.below HG.out HB.out | apply GG.drewN | apply GG.drew)) nameA).mono ?_; rintro e w' ⟨rfl, ⟨nd, rfl⟩⟩))
  refine (ends_walk g bk cap cur (w2.drewN _) HR2.out ((HB.out.block bk hbl).trans HCU.out) HQ.out.1 HQ.out.2.1 HQ.out.2.2).mono ?_
  rintro e w3 ⟨rfl, hB3, hO⟩
  have HB3 : Aside0 (Below g w w3) := ⟨(HB.out.mono (Nat.le_of_lt hgl)).trans ((pw_below_drewN (Below.refl g w2) _).trans hB3)⟩
  have HO := Aside0.mk hO
  clear hB3 hO x0 x1 x2 y0 y4
  go_wp2_with fail
  go_ret
  exact ⟨rfl, HB3.out, HO.out⟩
end Go.Proofs.YtdojmdbaiddkgaaDoor.Print
end
section
set_option linter.unusedVariables false
set_option linter.unusedSimpArgs false
namespace Go.Proofs.YtdojmdbaiddkgaaDoor.Print
open Go.RowKit Go.Proofs.YtdojmdbaiddkgaaDoorW.PrintWords Go.Proofs.YtdojmdbaiddkgaaDoorW.PrintLast Go.Proofs.YtdojmdbaiddkgaaDoorW.PrintMore
theorem addr_plain {w : World} {ad : Addr} {v : Value} (h : w.cell? (ad.add 0) = some v) : ∃ b o, ad = ⟨b, o, none⟩ := by
  obtain ⟨b, o, sp⟩ := ad
  cases sp with
  | none => exact ⟨b, o, rfl⟩
  | some z =>
    exfalso
    unfold Addr.add at h
    rw [if_pos rfl] at h
    simp only [World.cell?] at h; split at h <;> simp at h
theorem add_plainO (b o j : Nat) : (⟨b, o, none⟩ : Addr).add j = ⟨b, o + j, none⟩ := by
  unfold Addr.add
  split
  · rename_i h8; subst h8; rfl
  · rfl
theorem ba_toList {a b : ByteArray} (h : a.toList = b.toList) : a = b := by
  have : a.data.toList = b.data.toList := by rw [← Go.ByteArray.toList_eq a, ← Go.ByteArray.toList_eq b]; exact h
  cases a; cases b; simp at this; rw [this]
theorem cellLt0 {w : World} {a : Addr} {v : Value} (h : w.cell? a = some v) : a.block < w.heap.size := by
  rcases Nat.lt_or_ge a.block w.heap.size with h9 | h9
  · exact h9
  · simp [World.cell?, Array.getElem?_eq_none h9] at h
/-- A row of strings, by its block. -/
theorem strs_row {w : World} {A : Option Addr} {xs : List ByteArray} (h : Kd.C Kd.string w A xs.length xs) (hn : xs ≠ []) : ∃ b o, A = some ⟨b, o, none⟩ ∧ ∀ j, j < xs.length → w.cell? ⟨b, o + j, none⟩ = some (.string (xs.getD j ByteArray.empty)) := by
  have hl : 0 < xs.length := by cases xs with
    | nil => exact absurd rfl hn
    | cons _ _ => simp
  obtain ⟨_, _, hcell⟩ := Kd.reads_of_C (d := ByteArray.empty) (h1 := fun _ => rfl) h
  obtain ⟨ad, hA, hcl⟩ := hcell hl
  obtain ⟨b, o, rfl⟩ := addr_plain (hcl 0 hl)
  exact ⟨b, o, hA, fun j hj => by rw [← add_plainO]; exact hcl j hj⟩
theorem strs_eq (A0 : Option Addr) (c0 : Nat) (l0 : List ByteArray) (A1 : Option Addr) (c1 : Nat) (l1 : List ByteArray) (w : World) (h0 : Kd.C Kd.string w A0 l0.length l0) (h1 : Kd.C Kd.string w A1 l1.length l1) :
    Calls Tryd.prog 22 #[.slice A0 l0.length c0, .slice A1 l1.length c1] w fun e w' => e = .returned (.bool (decide (l0 = l1))) ∧ Below w.heap.size w w' := by
  by_cases hl : l0.length = l1.length
  · cases l0 with
    | nil =>
      have : l1 = [] := by cases l1 with
        | nil => rfl
        | cons _ _ => simp at hl
      subst this
      exact (Tryd.slices_Equal_string_empty A0 A1 c0 0 c1 w (by omega)).mono fun e w' ⟨he, hw⟩ => ⟨he, hw ▸ Below.refl _ _⟩
    | cons x t =>
      have hn1 : l1 ≠ [] := by rintro rfl; simp at hl
      obtain ⟨b0, o0, rfl, hc0⟩ := strs_row h0 (by simp)
      obtain ⟨b1, o1, rfl, hc1⟩ := strs_row h1 hn1
      refine (Tryd.slices_Equal_string b0 o0 _ c0 b1 o1 _ c1 (x :: t) l1 w (Nat.le_refl _) (Nat.le_refl _) h0.2.1 h1.2.1 hc0 hc1).mono ?_
      rintro e w' ⟨he, q, rfl⟩
      rw [List.take_length, List.take_length] at he
      exact ⟨he, pw_below_drewN (Below.refl _ _) q⟩
  · refine (Tryd.slices_Equal_string_lens A0 A1 _ c0 _ c1 w hl).mono ?_
    rintro e w' ⟨he, rfl⟩
    exact ⟨by rw [he, decide_eq_false (fun h => hl (by rw [h]))], Below.refl _ _⟩
/-- A parameter of a row, by its block. -/
theorem par_at {w : World} {A : Option Addr} {l : List S59} (h : Kd.C k59 w A l.length l) (i : Nat) (hi : i < l.length) : ∃ b o A1 c1, A = some ⟨b, o, none⟩ ∧ w.cell? ⟨b, o + i * 2, none⟩ = some (.string (l.getD i z59).f0) ∧ w.cell? ⟨b, o + i * 2 + 1, none⟩ = some (.slice A1 (l.getD i z59).f1.length c1) ∧ (l.getD i z59).f1.length ≤ c1 ∧ Kd.C Kd.string w A1 (l.getD i z59).f1.length (l.getD i z59).f1 := by
  obtain ⟨ad, A1, c1, hA, h0, h1, hc, hC⟩ := at_T59 h i (by omega) (by omega)
  obtain ⟨ad', _, _, hA', h0', _⟩ := at_T59 h 0 (by omega) (by omega)
  obtain rfl : ad = ad' := by rw [hA] at hA'; exact Option.some.inj hA'
  obtain ⟨b, o, rfl⟩ := addr_plain (show w.cell? (ad.add 0) = _ from h0')
  refine ⟨b, o, A1, c1, hA, ?_, ?_, hc, hC⟩
  · rw [add_plainO] at h0; exact h0
  · rw [add_plainO] at h1; exact h1
def eqP (p q : S59) : Bool := decide (p.f0 = q.f0) && decide (p.f1 = q.f1)
theorem eqP_walk (p q : S59) (A0 : Option Addr) (c0 : Nat) (A1 : Option Addr) (c1 : Nat) (w : World) (h0 : Kd.C Kd.string w A0 p.f1.length p.f1) (h1 : Kd.C Kd.string w A1 q.f1.length q.f1) :
    Calls Tryd.prog 21 #[.agg #[.string p.f0, .slice A0 p.f1.length c0], .agg #[.string q.f0, .slice A1 q.f1.length c1]] w fun e w' => e = .returned (.bool (eqP p q)) ∧ Below w.heap.size w w' := by
  obtain ⟨n0, l0⟩ := p
  obtain ⟨n1, l1⟩ := q
  have H0 := Aside0.mk h0
  have H1 := Aside0.mk h1
  clear h0 h1
  dsimp only at H0 H1 ⊢
  by_cases hn : n0 = n1
  · subst hn
    have hb : (n0.toList == n0.toList) = true := beq_self_eq_true _
    have hP : eqP ⟨n0, l0⟩ ⟨n0, l1⟩ = decide (l0 = l1) := by unfold eqP; simp
    rw [hP]
    clear hP
    go_enter Tryd.func21, Tryd.ntmps21
    go_wp2_with fail
    go_at_call 22
    refine (strs_eq A0 c0 l0 A1 c1 l1 _ (Kd.C_below H0.out (below_alloc (below_alloc (Below.refl _ _) _) _)) (Kd.C_below H1.out (below_alloc (below_alloc (Below.refl _ _) _) _))).mono ?_
    rintro e w2 ⟨rfl, hB⟩
    have HB := Aside0.mk hB
    clear hB
    obtain ⟨b, hbd⟩ : ∃ b, b = decide (l0 = l1) := ⟨_, rfl⟩
    rw [← hbd]
    have HBD := Aside0.mk hbd
    clear hbd hb
    go_wp2_with fail
    go_ret
    exact ⟨by rw [← HBD.out]; rfl, (below_alloc (below_alloc (Below.refl _ _) _) _).trans (HB.out.mono (by simp; omega))⟩
  · have hb2 : ¬ n0.toList = n1.toList := fun h => hn (ba_toList h)
    have hb : (n0.toList == n1.toList) = false := by rw [beq_eq_false_iff_ne]; exact hb2
    have hP : eqP ⟨n0, l0⟩ ⟨n1, l1⟩ = false := by unfold eqP; rw [decide_eq_false hn]; rfl
    rw [hP]
    clear hP
    go_enter Tryd.func21, Tryd.ntmps21
    go_wp2_with fail
    go_ret
    exact ⟨rfl, below_alloc (below_alloc (Below.refl _ _) _) _⟩
def eqPs : List S59 → List S59 → Bool
  | [], [] => true
  | p :: s, q :: t => eqP p q && eqPs s t
  | _, _ => false
theorem eqPs_len : ∀ (a b : List S59), a.length ≠ b.length → eqPs a b = false
  | [], [], h => absurd rfl h
  | [], _ :: _, _ => rfl
  | _ :: _, [], _ => rfl
  | _ :: s, _ :: t, h => by
    unfold eqPs
    rw [eqPs_len s t (fun e => h (by simp [e])), Bool.and_false]
theorem eqPs_at (a b : List S59) (i : Nat) (ha : i < a.length) (hb : i < b.length) : eqPs (a.drop i) (b.drop i) = (eqP (a.getD i z59) (b.getD i z59) && eqPs (a.drop (i + 1)) (b.drop (i + 1))) := by
  rw [List.drop_eq_getElem_cons ha, List.drop_eq_getElem_cons hb, List.getD_eq_getElem?_getD, List.getD_eq_getElem?_getD, List.getElem?_eq_getElem ha, List.getElem?_eq_getElem hb]
  rfl
set_option maxHeartbeats 4000000 in
set_option maxRecDepth 100000 in
theorem eqPs_walk (A0 : Option Addr) (c0 : Nat) (l0 : List S59) (A1 : Option Addr) (c1 : Nat) (l1 : List S59) (w : World) (h0 : Kd.C k59 w A0 l0.length l0) (h1 : Kd.C k59 w A1 l1.length l1) :
    Calls Tryd.prog 20 #[.slice A0 l0.length c0, .slice A1 l1.length c1, .func (.func 21) #[] #[]] w fun e w' => e = .returned (.bool (eqPs l0 l1)) ∧ Below w.heap.size w w' := by
  have hm := h0.2.1
  have H0 := Aside0.mk h0
  have H1 := Aside0.mk h1
  clear h0 h1
  by_cases hl : l0.length = l1.length
  · obtain ⟨n, hn⟩ : ∃ n, n = l0.length := ⟨_, rfl⟩
    have hn1 : n = l1.length := by omega
    have HN := Aside0.mk hn
    have HN1 := Aside0.mk hn1
    rw [← hn] at hm ⊢
    rw [← hn1]
    clear hl hn hn1
    have hnot : ∀ (x : Bool) (w : World), (Op.unary .not (.bool x)).run Tryd.prog w = .ok (.bool (!x)) w := fun _ _ => rfl
    go_enter Tryd.func20, Tryd.ntmps20
    go_wp2_with fail
    go_loopg [7, 8, 9, 17] n (fun g v7 v8 v9 v17 wr => ∃ i : Nat, v17 = .int .i64 i ∧ i ≤ n ∧ Aside0 (n ≤ i + g) ∧ Aside0 (Below w.heap.size w wr) ∧ Aside0 (eqPs l0 l1 = eqPs (l0.drop i) (l1.drop i)))
    case atStart => exact ⟨0, rfl, by omega, ⟨by omega⟩, ⟨Below.refl _ _⟩, ⟨rfl⟩⟩
    case round =>
      obtain ⟨i, rfl, hi, HG, HB, HE⟩ := hrel
      by_cases hlt : i < n
      · cases gk with
        | zero => exfalso; have := HG.out; omega
        | succ g =>
        obtain ⟨b0, o0, A2, c2, e0, p0, p1, hc2, hC2⟩ := par_at (Kd.C_below H0.out HB.out) i (by have := HN.out; omega)
        obtain ⟨b1, o1, A3, c3, e1, q0, q1, hc3, hC3⟩ := par_at (Kd.C_below H1.out HB.out) i (by have := HN1.out; omega)
        subst e0 e1
        have hE := eqPs_at l0 l1 i (by have := HN.out; omega) (by have := HN1.out; omega)
        obtain ⟨p, hp⟩ : ∃ p, p = l0.getD i z59 := ⟨_, rfl⟩
        obtain ⟨q, hq⟩ : ∃ q, q = l1.getD i z59 := ⟨_, rfl⟩
        rw [← hp] at p0 p1 hc2 hC2 hE
        rw [← hq] at q0 q1 hc3 hC3 hE
        have HX := Aside0.mk (And.intro hC2 (And.intro hC3 hE))
        have hb0 := cellLt0 p0
        have hb1 := cellLt0 q0
        clear hC2 hC3 hc2 hc3 hp hq hE
        have HQ := eqP_walk p q A2 c2 A3 c3
        have HQQ := Aside0.mk HQ
        clear HQ
        obtain ⟨r, hr⟩ : ∃ r, r = eqP p q := ⟨_, rfl⟩
        rw [← hr] at HQQ HX
        clear hr
        go_wp2_with fail
        go_at_call 21
        refine (HQQ.out _ (Kd.C_below HX.out.1 (below_alloc (below_alloc (Below.refl _ _) _) _)) (Kd.C_below HX.out.2.1 (below_alloc (below_alloc (Below.refl _ _) _) _))).mono ?_
        rintro e w2 ⟨rfl, hB⟩
        have HB2 := Aside0.mk (HB.out.trans (((below_alloc (below_alloc (Below.refl _ _) _) _).trans (hB.mono (by simp; omega))).mono HB.out.size))
        clear hB
        cases r with
        | true =>
          go_wp2_with fail
          go_roundg g
          case measure => have := HG.out; omega
          case rel => exact ⟨i + 1, by first | rfl | (go_num; done), by omega, ⟨by have := HG.out; omega⟩, HB2, ⟨by rw [HE.out, HX.out.2.2, Bool.true_and]⟩⟩
        | false =>
          go_wp2_with fail
          go_ret
          exact ⟨by rw [HE.out, HX.out.2.2, Bool.false_and]; rfl, HB2.out⟩
      · have hin : i = n := by omega
        subst hin
        go_wp2_with fail
        go_ret
        refine ⟨?_, HB.out⟩
        rw [HE.out, List.drop_eq_nil_of_le (by have := HN.out; omega), List.drop_eq_nil_of_le (by have := HN1.out; omega)]
        rfl
  · have he := eqPs_len l0 l1 hl
    have HE := Aside0.mk he
    clear he
    have hl1 : decide ((l0.length : Int) = (l1.length : Int)) = false := decide_eq_false (by omega)
    have hl2 : ¬ (l0.length : Int) = (l1.length : Int) := by omega
    go_enter Tryd.func20, Tryd.ntmps20
    go_wp2_with fail
    go_ret
    exact ⟨by rw [HE.out]; rfl, Below.refl _ _⟩
def eqL (a : ByteArray) (l : List S59) (v : ByteArray) (b : ByteArray) (m : List S59) (u : ByteArray) : Bool := decide (a = b) && decide (v = u) && eqPs l m
theorem beqS_no {a b : ByteArray} (h : ¬ a = b) : (a.toList == b.toList) = false := by rw [beq_eq_false_iff_ne]; exact fun e => h (ba_toList e)
def line_Equal.f (a0_0 : ByteArray) (l0_1 : List S59) (a0_2 : ByteArray) (a1_0 : ByteArray) (l1_1 : List S59) (a1_2 : ByteArray) : Option Bool := some (eqL a0_0 l0_1 a0_2 a1_0 l1_1 a1_2)
theorem line_Equal.calls (a0_0 : ByteArray) (A0_1 : Option Addr) (c0_1 : Nat) (l0_1 : List S59) (a0_2 : ByteArray) (a1_0 : ByteArray) (A1_1 : Option Addr) (c1_1 : Nat) (l1_1 : List S59) (a1_2 : ByteArray) (r : Bool) (w : World) (hG : GG w) (hr0_1 : Kd.C k59 w A0_1 l0_1.length l0_1) (hc0_1 : l0_1.length ≤ c0_1) (hr1_1 : Kd.C k59 w A1_1 l1_1.length l1_1) (hc1_1 : l1_1.length ≤ c1_1) (h : line_Equal.f a0_0 l0_1 a0_2 a1_0 l1_1 a1_2 = some r) :
    Calls Tryd.prog 10 #[.agg #[.string a0_0, .slice A0_1 l0_1.length c0_1, .string a0_2], .agg #[.string a1_0, .slice A1_1 l1_1.length c1_1, .string a1_2]] w fun e w' => e = .returned (.bool r) ∧ Below w.heap.size w w' := by
  obtain rfl := Option.some.inj h
  have H0 := Aside0.mk hr0_1
  have H1 := Aside0.mk hr1_1
  clear h hG hr0_1 hr1_1 hc0_1 hc1_1
  by_cases hn : a0_0 = a1_0
  · subst hn
    by_cases hv : a0_2 = a1_2
    · subst hv
      have hP : eqL a0_0 l0_1 a0_2 a0_0 l1_1 a0_2 = eqPs l0_1 l1_1 := by unfold eqL; simp
      rw [hP]
      clear hP
      have hb : (a0_0.toList == a0_0.toList) = true := beq_self_eq_true _
      have hb2 : (a0_2.toList == a0_2.toList) = true := beq_self_eq_true _
      go_enter Tryd.func10, Tryd.ntmps10
      go_wp2_with fail
      go_at_call 20
      refine (eqPs_walk A0_1 c0_1 l0_1 A1_1 c1_1 l1_1 _ (Kd.C_below H0.out (below_alloc (below_alloc (Below.refl _ _) _) _)) (Kd.C_below H1.out (below_alloc (below_alloc (Below.refl _ _) _) _))).mono ?_
      rintro e w2 ⟨rfl, hB⟩
      have HB := Aside0.mk hB
      clear hB
      obtain ⟨b, hbd⟩ : ∃ b, b = eqPs l0_1 l1_1 := ⟨_, rfl⟩
      rw [← hbd]
      have HBD := Aside0.mk hbd
      clear hbd hb hb2
      go_wp2_with fail
      go_ret
      exact ⟨by rw [← HBD.out]; rfl, (below_alloc (below_alloc (Below.refl _ _) _) _).trans (HB.out.mono (by simp; omega))⟩
    · have hP : eqL a0_0 l0_1 a0_2 a0_0 l1_1 a1_2 = false := by unfold eqL; rw [decide_eq_false hv]; simp
      rw [hP]
      clear hP
      have hb : (a0_0.toList == a0_0.toList) = true := beq_self_eq_true _
      have hb2 := beqS_no hv
      have hb3 : ¬ a0_2.toList = a1_2.toList := fun e => hv (ba_toList e)
      go_enter Tryd.func10, Tryd.ntmps10
      go_wp2_with fail
      go_ret
      exact ⟨rfl, below_alloc (below_alloc (Below.refl _ _) _) _⟩
  · have hP : eqL a0_0 l0_1 a0_2 a1_0 l1_1 a1_2 = false := by unfold eqL; rw [decide_eq_false hn]; rfl
    rw [hP]
    clear hP
    have hb2 := beqS_no hn
    have hb3 : ¬ a0_0.toList = a1_0.toList := fun e => hn (ba_toList e)
    go_enter Tryd.func10, Tryd.ntmps10
    go_wp2_with fail
    go_ret
    exact ⟨rfl, below_alloc (below_alloc (Below.refl _ _) _) _⟩
end Go.Proofs.YtdojmdbaiddkgaaDoor.Print
end
section
set_option linter.unusedVariables false
set_option linter.unusedSimpArgs false
namespace Go.Proofs.YtdojmdbaiddkgaaDoor.Print
open Go.RowKit Go.Proofs.YtdojmdbaiddkgaaDoorW.PrintWords Go.Proofs.YtdojmdbaiddkgaaDoorW.PrintLast Go.Proofs.YtdojmdbaiddkgaaDoorW.PrintMore
abbrev tText : ByteArray := ⟨#[66, 69, 71, 73, 78, 58, 65, 13, 10, 69, 78, 68, 58, 65, 13, 10]⟩
abbrev tB : ByteArray := ⟨#[66, 69, 71, 73, 78, 58, 65]⟩
abbrev tE : ByteArray := ⟨#[69, 78, 68, 58, 65]⟩
theorem below_up {w : World} {g : Nat} {o : Obj} (h : g < w.heap.size) : Below g w (w.alloc o) := (below_alloc (Below.refl _ w) o).mono (Nat.le_of_lt h)
theorem opened_below {w1 w w2 : World} {g : Nat} (h : Opened w1 w g) (hb : Below w.heap.size w w2) : Opened w1 w2 g := by
  obtain ⟨bk, cap, cur, h1, h2, h3, h4⟩ := h
  exact ⟨bk, cap, cur, h1, (hb.block g (blk_lt h2)).trans h2, (hb.block bk (blk_lt h3)).trans h3, h4⟩
/-- Where the loop over the lines stands. -/
structure TS (w2 : World) (g i : Nat) (wr : World) : Prop where
  bel : Below g w2 wr
  zero : i = 0 → Rst wr g #[.slice none 0 0, .string ⟨#[]⟩, .slice none 0 0, .slice none 0 0, .bool false]
  one : i = 1 → ∃ w1, Opened w1 wr g
  two : i = 2 → ∃ v, Rst wr g #[v, .string tA, .slice none 0 0, .slice none 0 0, .bool true]
set_option maxHeartbeats 1000000 in
set_option maxRecDepth 100000 in
theorem treeParse_walk (w : World) (hG : GG w) : Calls Tryd.prog 13 #[.string tText] w fun e w' => e = .returned (.tuple #[.agg #[.string tA, .slice none 0 0, .slice none 0 0], .int .i64 0, .int .i64 0]) ∧ Below w.heap.size w w' := by
  have HG := Aside0.mk hG
  have hnot : ∀ (x : Bool) (w : World), (Op.unary .not (.bool x)).run Tryd.prog w = .ok (.bool (!x)) w := fun _ _ => rfl
  clear hG
  go_enter Tryd.func13, Tryd.ntmps13
  go_wp2_with fail
  go_at_call 24
  refine (fold_Unfold.calls 40 tText [tB, tE] 0 0 _ (GG.below HG.out (by repeat (first | exact Below.refl _ _ | apply below_alloc | apply pw_below_drewN | apply below_drew1))) unfoldA).mono ?_
  rintro e w2 ⟨v0, rfl, hR, hB⟩
  obtain ⟨bl, cap, rfl, hbl, hll, _⟩ := Kd.R_form hR (by decide)
  have hC := (Kd.R_reads' hR).2.2
  obtain ⟨b', o', hA', hcs⟩ := strs_row hC (by simp)
  obtain ⟨rfl, rfl⟩ : bl = b' ∧ 0 = o' := by simpa using hA'
  have c0 : w2.cell? ⟨bl, 0, none⟩ = some (.string tB) := hcs 0 (by decide)
  have c1 : w2.cell? ⟨bl, 1, none⟩ = some (.string tE) := hcs 1 (by decide)
  have HC0 := Aside0.mk c0
  have HC1 := Aside0.mk c1
  have hres := (hB.block w.heap.size (by simp)).trans (heap_alloc_new w _)
  have HRes := Aside0.mk hres
  have HB : Aside0 (Below w.heap.size w w2) := ⟨(below_alloc (Below.refl w.heap.size w) _).trans (hB.mono (by simp))⟩
  obtain ⟨R0, hR0⟩ : ∃ R0, R0 = w.heap.size := ⟨_, rfl⟩
  rw [← hR0] at HRes ⊢
  have HR0 := Aside0.mk hR0
  have hRl : R0 < w2.heap.size := blk_lt HRes.out
  clear hA' hcs hR hB hC hres hR0 hbl c0 c1
  go_wp2_with fail
  obtain ⟨g, hg⟩ : ∃ g, g = w2.heap.size := ⟨_, rfl⟩
  have HT0 : Aside0 (TS w2 g 0 (w2.alloc (.cells #[.slice none 0 0, .string ⟨#[]⟩, .slice none 0 0, .slice none 0 0, .bool false] 67))) := ⟨⟨by rw [hg]; exact below_alloc (Below.refl _ _) _, fun _ => by rw [hg]; exact heap_alloc_new _ _, fun h => absurd h (by decide), fun h => absurd h (by decide)⟩⟩
  rw [← hg]
  have HGs := Aside0.mk hg
  have hlg : bl < g := by omega
  have hRg : R0 < g := by omega
  clear hg
  go_loopg [29] 2 (fun k v29 wr => ∃ i : Nat, v29 = .int .i64 i ∧ i ≤ 2 ∧ Aside0 (2 ≤ i + k) ∧ Aside0 (TS w2 g i wr))
  case atStart => exact ⟨0, rfl, by omega, ⟨by omega⟩, HT0⟩
  case round =>
    obtain ⟨i, rfl, hi, HK, HT⟩ := hrel
    have hgr : g ≤ wr.heap.size := by have := HT.out.bel.size; have := HGs.out; omega
    have c0 := (HT.out.bel.cell (p := ⟨bl, 0, none⟩) hlg).trans HC0.out
    have c1 := (HT.out.bel.cell (p := ⟨bl, 1, none⟩) hlg).trans HC1.out
    have HGr : Aside0 (GG wr) := ⟨GG.below HG.out (HB.out.trans (HT.out.bel.mono (by have := HGs.out; have := HB.out.size; omega)))⟩
    rcases (show i = 0 ∨ i = 1 ∨ i = 2 by omega) with rfl | rfl | rfl
    · cases gk with
      | zero => exfalso; have := HK.out; omega
      | succ k =>
      have HR := Aside0.mk (HT.out.zero rfl)
      go_wp2_with fail
      go_at_call 25
      refine (parseB _ HGr.out).mono ?_
      rintro e w3 ⟨rfl, hB3⟩
      have HR3 := Aside0.mk ((hB3.block g (blk_lt HR.out)).trans HR.out)
      have HB3 := Aside0.mk (HT.out.bel.trans (hB3.mono hgr))
      have HG3 := Aside0.mk (GG.below HGr.out hB3)
      have hg3 : g < w3.heap.size := blk_lt HR3.out
      clear hB3 c0 c1
      go_wp2_with fail
      go_at_call 26
      refine (lineB_walk g _ (GG.below HG3.out (by repeat (first | exact Below.refl _ _ | apply below_alloc))) (by repeat (first | exact HR3.out | refine blk_alloc ?_ _))).mono ?_
      rintro e w4 ⟨rfl, hB4, hO⟩
      have HB4 := Aside0.mk (HB3.out.trans ((below_up hg3).trans hB4))
      have HO := Aside0.mk hO
      clear hB4 hO
      go_wp2_with fail
      go_roundg k
      case measure => have := HK.out; omega
      case rel => exact ⟨1, by first | rfl | (go_num; done), by omega, ⟨by have := HK.out; omega⟩, ⟨⟨HB4.out, fun h => absurd h (by decide), fun _ => HO.out, fun h => absurd h (by decide)⟩⟩⟩
    · cases gk with
      | zero => exfalso; have := HK.out; omega
      | succ k =>
      obtain ⟨w1, hO⟩ := HT.out.one rfl
      have hgl : g < wr.heap.size := by obtain ⟨_, _, _, _, h, _⟩ := hO; exact blk_lt h
      have HO := Aside0.mk hO
      clear hO
      go_wp2_with fail
      go_at_call 25
      refine (parseE _ HGr.out).mono ?_
      rintro e w3 ⟨rfl, hB3⟩
      have HO3 : Aside0 (Opened w1 w3 g) := ⟨opened_below HO.out hB3⟩
      have HB3 := Aside0.mk (HT.out.bel.trans (hB3.mono hgr))
      have HG3 := Aside0.mk (GG.below HGr.out hB3)
      have hg3 : g < w3.heap.size := by have := hB3.size; omega
      clear hB3 c0 c1
      go_wp2_with fail
      go_at_call 26
      refine (lineE_walk g _ w1 (GG.below HG3.out (by repeat (first | exact Below.refl _ _ | apply below_alloc))) (opened_below HO3.out (by repeat (first | exact Below.refl _ _ | apply below_alloc)))).mono ?_
      rintro e w4 ⟨rfl, hB4, hO⟩
      have HB4 := Aside0.mk (HB3.out.trans ((below_up hg3).trans hB4))
      have HO4 := Aside0.mk hO
      clear hB4 hO
      go_wp2_with fail
      go_roundg k
      case measure => have := HK.out; omega
      case rel => exact ⟨2, by first | rfl | (go_num; done), by omega, ⟨by have := HK.out; omega⟩, ⟨⟨HB4.out, fun h => absurd h (by decide), fun h => absurd h (by decide), fun _ => HO4.out⟩⟩⟩
    · obtain ⟨v, hv⟩ := HT.out.two rfl
      have x0 := pblk_cell hv 0
      have x1 := pblk_cell hv 1
      have x2 := pblk_cell hv 2
      have x3 := pblk_cell hv 3
      have x4 := pblk_cell hv 4
      have hrs := (HT.out.bel.block R0 hRg).trans HRes.out
      have r0 := pblk_cell hrs 0
      have r1 := pblk_cell hrs 1
      have r2 := pblk_cell hrs 2
      have z0 := pblk_froz hrs 0
      have z1 := pblk_froz hrs 1
      have z2 := pblk_froz hrs 2
      have hRG : R0 ≠ g := by omega
      clear hv hrs c0 c1
      go_wp2_with fail
      refine bodyPost_ret (v := .tuple #[.agg #[.string tA, .slice none 0 0, .slice none 0 0], .int .i64 0, .int .i64 0]) (by simp [results, Tryd.results13, go_sem, r0, r1, r2]) rfl ⟨rfl, ?_⟩
      have hb := HB.out.trans (HT.out.bel.mono (by have := HGs.out; have := HB.out.size; omega))
      have hw : w.heap.size ≤ R0 := by have := HR0.out; omega
      exact ((hb.setCell (p := ⟨R0, 0, none⟩) hw _).setCell (p := ⟨R0, 1, none⟩) hw _).setCell (p := ⟨R0, 2, none⟩) hw _
def tree_Parse.f (a0 : ByteArray) : Option (ByteArray × List S37 × List S32 × Int × Int) := if a0 = tText then some (tA, [], [], 0, 0) else none
theorem tree_Parse.calls (a0 : ByteArray) (r1 : ByteArray) (r2 : List S37) (r3 : List S32) (r4 r5 : Int) (w : World) (hG : GG w) (h : tree_Parse.f a0 = some (r1, r2, r3, r4, r5)) :
    Calls Tryd.prog 13 #[.string a0] w fun e w' => ∃ v1_ v2_ : Value, e = .returned (.tuple #[.agg #[.string r1, v1_, v2_], .int .i64 r4, .int .i64 r5]) ∧ Kd.R k37 37 w' w.heap.size (fun _ => True) v1_ r2 ∧ Kd.R k32 32 w' w.heap.size (fun k_ => some k_ ≠ (v1_ : Value).ownBlock) v2_ r3 ∧ Below w.heap.size w w' := by
  unfold tree_Parse.f at h
  by_cases ha : a0 = tText
  · rw [if_pos ha] at h
    simp only [Option.some.injEq, Prod.mk.injEq] at h
    obtain ⟨rfl, rfl, rfl, rfl, rfl⟩ := h
    subst ha
    refine (treeParse_walk w hG).mono ?_
    rintro e w' ⟨rfl, hB⟩
    exact ⟨_, _, rfl, Kd.R_nil _ _ _ _ _, Kd.R_nil _ _ _ _ _, hB⟩
  · rw [if_neg ha] at h; cases h
end Go.Proofs.YtdojmdbaiddkgaaDoor.Print
end
