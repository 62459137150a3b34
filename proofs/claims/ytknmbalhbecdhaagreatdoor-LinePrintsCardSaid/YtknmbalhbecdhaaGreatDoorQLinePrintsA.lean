/- Texts of the proof of LinePrints, put together: Shelf Rune XBase TabsU8 Args Print0 LArgs Print10 Print11 PUtf0 Print1 PUtf Print6. -/
import Derived.Shelf.Unicode.ValidAny
import Derived.Shelf.Strings.Builder1
import Derived.Shelf.Small.Utf8
import Derived.Shelf.Small.Strs
import Derived.Shelf.Strings.BuilderF
import Derived.Shelf.Strings.BuilderK
import Derived.Shelf.Strings.Search1
import Derived.Shelf.Strings.Search2
import Derived.Shelf.Strings.Search3
import Derived.Shelf.Strings.Count
import Derived.Shelf.LaysM
import Derived.Shelf.Strings.Shaped
import Derived.Shelf.Strings.Runes
import Derived.Shelf.Strings.IndexAny
import Derived.Shelf.Strings.AsciiSet
import Derived.Shelf.Strings.IndexAnyAll
import Derived.Shelf.Slices.Equal
import Derived.Shelf.Slices.Empties2
import Derived.Test.YtknmbalhbecdhaaGreatDoorProg
import Derived.WalkKit
import Derived.WalkSpells
import Derived.Laws.Runes
import Derived.Laws.RangeAny
import Derived.Laws.RangeString
import Derived.Lib.IndexAny
import Derived.Lib.SpaceUEq
import Derived.Lib.RuneCount
import Derived.Lib.QuoteLoop
import Derived.Lib.Hide
import Derived.Lib.OthersKept
import Derived.Lib.DecodeN
import Derived.BigQuiet
import Derived.IntWalk
import Derived.Deep.QuietTactic
import Derived.Test.YtknmbalhbecdhaaGreatDoorRows
import Derived.Lib.LaidU8T
import Derived.PinnedBridge
import Derived.MakeChecks
import Derived.ProofKit
import Derived.SliceStrings
import Derived.SizedLaws
import Derived.Deep.Slices
import Derived.Below
import Derived.Deep.Draws
import Derived.Deep.AppendLies
import Derived.Maps.AppendAt
import Derived.OwnWalk
import Derived.Laws.BytesArg
import Derived.Laws.MakeOwn
import Derived.Laws.OwnMore
import Derived.Deep.OwnRows
import Derived.Tactics
import Derived.Lib.ConvBytes
import Derived.Laws.Slices
import Derived.KernelRfl
import Derived.RowKit3
import Derived.Deep.LoopGhost
import Derived.WideLaws
import Derived.Deep.DeepCutAuto
import Derived.Deep.CutBlock
import Derived.Deep.RegionHeld3
import Derived.Laws.Rows
import Derived.Lib.AppendStr
import Derived.ArgAppend
import Derived.Laws.IdiomCopy
import Derived.OrdersHeld
import Derived.Laws.BitsLemmas
import Derived.RowKit
import Derived.Test.YtknmbalhbecdhaaGreatDoorWWords
import Derived.Test.YtknmbalhbecdhaaGreatDoorWLast
import Derived.Test.YtknmbalhbecdhaaGreatDoorWTab
import Derived.Test.YtknmbalhbecdhaaGreatDoorWApart
import Derived.Test.YtknmbalhbecdhaaGreatDoorWArr
import Derived.Test.YtknmbalhbecdhaaGreatDoorWFoot
import Derived.Test.YtknmbalhbecdhaaGreatDoorWKept
import Derived.Test.YtknmbalhbecdhaaGreatDoorWRepsOne
import Derived.Test.YtknmbalhbecdhaaGreatDoorWGuard
import Derived.Lib.ValidU
import Derived.Lib.TrimUEq
import Derived.Lib.ValidLaws
import Derived.Lib.MapLaws
import Derived.Laws.StructEq
section
namespace Go.Proofs.YtknmbalhbecdhaaGreatDoor.Print
open Go.RowKit
variable {P : Program} {ops : Array Oper} {rest : List Oper} {o : Oper} {a : Act} {Q : Exit → Act → World → Prop} {W : World}
theorem gate_callee {f : FuncId} {xs : Array Operand} {ts : Array TypeId} (_h : o.op = .call { callee := .value (.func f), args := xs, argTypes := ts }) (h : wpList P ops Q (o :: rest) a W) : wpList P ops Q (o :: rest) a W := h
theorem gate_builtin {b : Builtin} {xs : Array Operand} {ts : Array TypeId} (_h : o.op = .call { callee := .builtin b, args := xs, argTypes := ts }) (h : wpList P ops Q (o :: rest) a W) : wpList P ops Q (o :: rest) a W := h
end Go.Proofs.YtknmbalhbecdhaaGreatDoor.Print
end
section
namespace Go.Proofs
open Go.Shelf
def Tryz.lays170_ren : Go.Shelf.Ren := ⟨fun | 170 => 22 | n => n, fun | 70 => 45 | 3 => 3 | 0 => 0 | 72 => 48 | 37 => 46 | 5 => 5 | n => n, fun | n => n⟩
theorem Tryz.lays170 : Go.Proofs.Lays.n170 Tryz.prog Tryz.lays170_ren := {
  mixed := by kernel_rfl
  f170 := Tryz.func22.trans (congrArg some (by kernel_rfl))
  t0 := Tryz.underlying0
  a0 := Tryz.isAgg0
  z0 := Tryz.sizeOf0
  v0 := Tryz.zeroValue0
  t3 := Tryz.underlying3
  a3 := Tryz.isAgg3
  z3 := Tryz.sizeOf3
  v3 := Tryz.zeroValue3
  t37 := Tryz.underlying46
  a37 := Tryz.isAgg46
  z37 := Tryz.sizeOf46
  v37 := Tryz.zeroValue46
  t70 := Tryz.underlying45
  a70 := Tryz.isAgg45
  z70 := Tryz.sizeOf45
  v70 := Tryz.zeroValue45
  t72 := Tryz.underlying48
  a72 := Tryz.isAgg48
  z72 := Tryz.sizeOf48
  v72 := Tryz.zeroValue48 }
open Go.RowKit in
def Tryz.lays169_ren : Go.Shelf.Ren := ⟨fun | 169 => 23 | n => n, fun | 70 => 45 | 9 => 9 | 0 => 0 | 72 => 48 | 37 => 46 | 127 => 74 | 3 => 3 | 5 => 5 | n => n, fun | n => n⟩
theorem Tryz.lays169 : Go.Proofs.Lays.n169 Tryz.prog Tryz.lays169_ren := {
  mixed := by kernel_rfl
  f169 := Tryz.func23.trans (congrArg some (by kernel_rfl))
  t0 := Tryz.underlying0
  a0 := Tryz.isAgg0
  z0 := Tryz.sizeOf0
  v0 := Tryz.zeroValue0
  t3 := Tryz.underlying3
  a3 := Tryz.isAgg3
  z3 := Tryz.sizeOf3
  v3 := Tryz.zeroValue3
  t9 := Tryz.underlying9
  a9 := Tryz.isAgg9
  z9 := Tryz.sizeOf9
  v9 := Tryz.zeroValue9
  t37 := Tryz.underlying46
  a37 := Tryz.isAgg46
  z37 := Tryz.sizeOf46
  v37 := Tryz.zeroValue46
  t70 := Tryz.underlying45
  a70 := Tryz.isAgg45
  z70 := Tryz.sizeOf45
  v70 := Tryz.zeroValue45
  t72 := Tryz.underlying48
  a72 := Tryz.isAgg48
  z72 := Tryz.sizeOf48
  v72 := Tryz.zeroValue48
  t127 := Tryz.underlying74
  a127 := Tryz.isAgg74
  z127 := Tryz.sizeOf74
  v127 := Tryz.zeroValue74 }
theorem Tryz.Builder_Extra_169 : Builder.Extra Tryz.prog Tryz.lays169_ren := {
  sizeBuilder := by kernel_rfl
  liesBuilder := by kernel_rfl
  t5 := Tryz.underlying5
  a5 := Tryz.isAgg5
  z5 := Tryz.sizeOf5
  v5 := Tryz.zeroValue5
  infoByte := by kernel_rfl
  cellsByte := by kernel_rfl
  sizeByte := by kernel_rfl
  neB5 := by decide }
open Go.RowKit in
open Go.RowKit in
open Go.RowKit in
def Tryz.lays119_ren : Go.Shelf.Ren := ⟨fun | 119 => 74 | n => n, fun | 21 => 21 | 4 => 4 | n => n, fun | n => n⟩
theorem Tryz.lays119 : Go.Proofs.Lays.n119 Tryz.prog Tryz.lays119_ren := {
  mixed := by kernel_rfl
  f119 := Tryz.func74.trans (congrArg some (by kernel_rfl))
  t4 := Tryz.underlying4
  a4 := Tryz.isAgg4
  z4 := Tryz.sizeOf4
  v4 := Tryz.zeroValue4
  t21 := Tryz.underlying21
  a21 := Tryz.isAgg21
  z21 := Tryz.sizeOf21
  v21 := Tryz.zeroValue21 }
/-- utf8.ValidRune: "ValidRune reports whether r can be legally encoded as UTF-8. Code points that are out of range or a surrogate half are illegal.": IT RETURNS 'Lib.validRune r'; the world is as it was. (LAID: no walk: one application.) -/
theorem Tryz.utf8_ValidRune (r : Int) (w : World) :
    Calls Tryz.prog 74 #[.int .i32 r] w fun e w' => e = .returned (.bool (Lib.validRune r)) ∧ w' = w := Any.utf8_ValidRune Tryz.lays119 r w
def Tryz.lays137_ren : Go.Shelf.Ren := ⟨fun | 137 => 56 | 217 => 65 | 266 => 77 | n => n, fun | 9 => 9 | 5 => 5 | 3 => 3 | n => n, fun | n => n⟩
theorem Tryz.lays137 : Go.Proofs.Lays.n137 Tryz.prog Tryz.lays137_ren := {
  mixed := by kernel_rfl
  f137 := Tryz.func56.trans (congrArg some (by kernel_rfl))
  f217 := Tryz.func65.trans (congrArg some (by kernel_rfl))
  f266 := Tryz.func77.trans (congrArg some (by kernel_rfl))
  t3 := Tryz.underlying3
  a3 := Tryz.isAgg3
  z3 := Tryz.sizeOf3
  v3 := Tryz.zeroValue3
  t5 := Tryz.underlying5
  a5 := Tryz.isAgg5
  z5 := Tryz.sizeOf5
  v5 := Tryz.zeroValue5
  t9 := Tryz.underlying9
  a9 := Tryz.isAgg9
  z9 := Tryz.sizeOf9
  v9 := Tryz.zeroValue9 }
open Go.RowKit in
/-- strings.IndexByte: "IndexByte returns the index of the first instance of c in s, or -1 if c is not present in s.": IT RETURNS 'Lib.indexByte s c'; the world is as it was. (LAID: no walk: one application.) -/
theorem Tryz.strings_IndexByte (s : ByteArray) (c : Int) (w : World) :
    Calls Tryz.prog 56 #[.string s, .int .u8 c] w fun e w' => e = .returned (.int .i64 (Lib.indexByte s.data.toList c.toNat.toUInt8)) ∧ w' = w := Any.strings_IndexByte Tryz.lays137 s c w
open Go.RowKit in
/-- (*strings.Builder).Len: "Len returns the number of accumulated bytes; b.Len() == len(b.String()).": the world is as it was. (THE FORM '_f': 'Lib.IsBuilderF'.) (LAID: no walk: one application.) -/
theorem Tryz.Builder_Len_f (B b : Nat) (bs : List Value) (w : World) (h : Lib.IsBuilderF 48 5 B b bs w) :
    Calls Tryz.prog 22 #[.pointer (some ⟨b, 0, none⟩)] w fun e w' => e = .returned (.int .i64 bs.length) ∧ w' = w := Any.Builder_Len_f Tryz.lays170 B b bs w h
open Go.RowKit in
open Go.RowKit in
open Go.RowKit in
open Go.RowKit in
open Go.RowKit in
open Go.RowKit in
/-- (*strings.Builder).String: "String returns the accumulated string.": WHATEVER THE BUILDER HOLDS; THE FORM '_k': OVER 'Lib.IsBuilderF' (a builder that 'String()' may have read), AND WITH THE FRAME THAT REACHES ABOVE THE BUILDER: 'Lib.OthersKept': every block that is not b and is no row of uint8's stands as it stood: the iterator of a range among them. (LAID: no walk: one application.) -/
theorem Tryz.Builder_String_any_k (B b : Nat) (l : List UInt8) (w : World) (h : Lib.IsBuilderF 48 5 B b (Lib.byteCells l) w) (hBw : B ≤ w.heap.size) :
    Calls Tryz.prog 23 #[.pointer (some ⟨b, 0, none⟩)] w fun e w' => e = .returned (.string ⟨l.toArray⟩) ∧ (Lib.IsBuilderF 48 5 B b (Lib.byteCells l) w' ∧ Below B w w' ∧ Lib.OthersKept 5 (some b) w w') := Any.Builder_String_any_k Tryz.lays169 Tryz.Builder_Extra_169 B b l w h hBw
open Go.RowKit Go.Lib in
open Go.RowKit Go.Lib in
open Go.RowKit Go.Lib in
open Go.RowKit Go.Lib in
open Go.RowKit Go.Lib in
open Go.RowKit Go.Lib in
open Go.RowKit Go.Lib in
open Go.RowKit Go.Lib in
def Tryz.lays138_ren : Go.Shelf.Ren := ⟨fun | 138 => 132 | 195 => 133 | 218 => 134 | 143 => 135 | 219 => 136 | 217 => 65 | 225 => 76 | 224 => 75 | 267 => 137 | 266 => 77 | 314 => 138 | n => n, fun | 9 => 9 | 3 => 3 | 4 => 4 | 5 => 5 | 0 => 0 | 46 => 82 | 146 => 188 | 51 => 88 | n => n, fun | 1 => 2 | n => n⟩
theorem Tryz.lays138 : Go.Proofs.Lays.n138 Tryz.prog Tryz.lays138_ren := {
  mixed := by kernel_rfl
  f138 := Tryz.func132.trans (congrArg some (by kernel_rfl))
  f143 := Tryz.func135.trans (congrArg some (by kernel_rfl))
  f195 := Tryz.func133.trans (congrArg some (by kernel_rfl))
  f217 := Tryz.func65.trans (congrArg some (by kernel_rfl))
  f218 := Tryz.func134.trans (congrArg some (by kernel_rfl))
  f219 := Tryz.func136.trans (congrArg some (by kernel_rfl))
  f224 := Tryz.func75.trans (congrArg some (by kernel_rfl))
  f225 := Tryz.func76.trans (congrArg some (by kernel_rfl))
  f266 := Tryz.func77.trans (congrArg some (by kernel_rfl))
  f267 := Tryz.func137.trans (congrArg some (by kernel_rfl))
  f314 := Tryz.func138.trans (congrArg some (by kernel_rfl))
  t0 := Tryz.underlying0
  a0 := Tryz.isAgg0
  z0 := Tryz.sizeOf0
  v0 := Tryz.zeroValue0
  t3 := Tryz.underlying3
  a3 := Tryz.isAgg3
  z3 := Tryz.sizeOf3
  v3 := Tryz.zeroValue3
  t4 := Tryz.underlying4
  a4 := Tryz.isAgg4
  z4 := Tryz.sizeOf4
  v4 := Tryz.zeroValue4
  t5 := Tryz.underlying5
  a5 := Tryz.isAgg5
  z5 := Tryz.sizeOf5
  v5 := Tryz.zeroValue5
  t9 := Tryz.underlying9
  a9 := Tryz.isAgg9
  z9 := Tryz.sizeOf9
  v9 := Tryz.zeroValue9
  t46 := Tryz.underlying82
  a46 := Tryz.isAgg82
  z46 := Tryz.sizeOf82
  v46 := Tryz.zeroValue82
  t51 := Tryz.underlying88
  a51 := Tryz.isAgg88
  z51 := Tryz.sizeOf88
  v51 := Tryz.zeroValue88
  t146 := Tryz.underlying188
  a146 := Tryz.isAgg188
  z146 := Tryz.sizeOf188
  v146 := Tryz.zeroValue188
  g1 := by kernel_rfl }
open Go.RowKit Go.Lib in
/-- strings.Count AT A substr OF ONE BYTE ('hp'): "Count counts the number of non-overlapping instances of substr in s.": IT RETURNS 'Lib.countByte s (that byte)'; the world is as it was. ✋ NO CONTRACT HERE YET at an empty substr (utf8.RuneCountInString) or at a longer one (a loop over strings.Index). (LAID: no walk: one application.) -/
theorem Tryz.strings_Count_one (s : ByteArray) (c : UInt8) (w : World) :
    Calls Tryz.prog 132 #[.string s, .string ⟨#[c]⟩] w fun e w' => e = .returned (.int .i64 (Lib.countByte s.data.toList c)) ∧ w' = w := Any.strings_Count_one Tryz.lays138 s c w
open Go.RowKit Go.Lib in
open Go.RowKit Go.Lib in
open Go.RowKit Go.Lib in
open Go.RowKit Go.Lib in
def Tryz.lays152_ren : Go.Shelf.Ren := ⟨fun | 152 => 61 | 137 => 56 | 119 => 74 | 224 => 75 | 225 => 76 | 217 => 65 | 266 => 77 | n => n, fun | 9 => 9 | 21 => 21 | 3 => 3 | 4 => 4 | 5 => 5 | 0 => 0 | 46 => 82 | n => n, fun | n => n⟩
theorem Tryz.lays152 : Go.Proofs.Lays.n152 Tryz.prog Tryz.lays152_ren := {
  mixed := by kernel_rfl
  f119 := Tryz.func74.trans (congrArg some (by kernel_rfl))
  f137 := Tryz.func56.trans (congrArg some (by kernel_rfl))
  f152 := Tryz.func61.trans (congrArg some (by kernel_rfl))
  f217 := Tryz.func65.trans (congrArg some (by kernel_rfl))
  f224 := Tryz.func75.trans (congrArg some (by kernel_rfl))
  f225 := Tryz.func76.trans (congrArg some (by kernel_rfl))
  f266 := Tryz.func77.trans (congrArg some (by kernel_rfl))
  t0 := Tryz.underlying0
  a0 := Tryz.isAgg0
  z0 := Tryz.sizeOf0
  v0 := Tryz.zeroValue0
  t3 := Tryz.underlying3
  a3 := Tryz.isAgg3
  z3 := Tryz.sizeOf3
  v3 := Tryz.zeroValue3
  t4 := Tryz.underlying4
  a4 := Tryz.isAgg4
  z4 := Tryz.sizeOf4
  v4 := Tryz.zeroValue4
  t5 := Tryz.underlying5
  a5 := Tryz.isAgg5
  z5 := Tryz.sizeOf5
  v5 := Tryz.zeroValue5
  t9 := Tryz.underlying9
  a9 := Tryz.isAgg9
  z9 := Tryz.sizeOf9
  v9 := Tryz.zeroValue9
  t21 := Tryz.underlying21
  a21 := Tryz.isAgg21
  z21 := Tryz.sizeOf21
  v21 := Tryz.zeroValue21
  t46 := Tryz.underlying82
  a46 := Tryz.isAgg82
  z46 := Tryz.sizeOf82
  v46 := Tryz.zeroValue82 }
open Go.RowKit Go.Lib in
theorem Tryz.strings_IndexRune_ascii (s : ByteArray) (r : Int) (w : World) (h0 : 0 ≤ r) (h1 : r < 128) :
    Calls Tryz.prog 61 #[.string s, .int .i32 r] w fun e w' => e = .returned (.int .i64 (Lib.indexByte s.data.toList r.toNat.toUInt8)) ∧ w' = w := Any.strings_IndexRune_ascii Tryz.lays152 s r w h0 h1
def Tryz.lays226_ren : Go.Shelf.Ren := ⟨fun | 226 => 62 | n => n, fun | 3 => 3 | 4 => 4 | n => n, fun | n => n⟩
theorem Tryz.lays226 : Go.Proofs.Lays.n226 Tryz.prog Tryz.lays226_ren := {
  mixed := by kernel_rfl
  f226 := Tryz.func62.trans (congrArg some (by kernel_rfl))
  t3 := Tryz.underlying3
  a3 := Tryz.isAgg3
  z3 := Tryz.sizeOf3
  v3 := Tryz.zeroValue3
  t4 := Tryz.underlying4
  a4 := Tryz.isAgg4
  z4 := Tryz.sizeOf4
  v4 := Tryz.zeroValue4 }
open Go.RowKit Go.Lib in
theorem Tryz.strings_shouldUseASCIISet (n : Int) (w : World) :
    Calls Tryz.prog 62 #[.int .i64 n] w fun e w' => e = .returned (.bool (decide (8 < n))) ∧ w' = w := Any.strings_shouldUseASCIISet Tryz.lays226 n w
def Tryz.lays153_ren : Go.Shelf.Ren := ⟨fun | 153 => 54 | 152 => 61 | 226 => 62 | 227 => 63 | 228 => 64 | 137 => 56 | 119 => 74 | 224 => 75 | 225 => 76 | 217 => 65 | 266 => 77 | n => n, fun | 9 => 9 | 3 => 3 | 4 => 4 | 5 => 5 | 21 => 21 | 117 => 112 | 116 => 111 | 0 => 0 | 46 => 82 | 124 => 131 | n => n, fun | n => n⟩
theorem Tryz.lays153 : Go.Proofs.Lays.n153 Tryz.prog Tryz.lays153_ren := {
  mixed := by kernel_rfl
  f119 := Tryz.func74.trans (congrArg some (by kernel_rfl))
  f137 := Tryz.func56.trans (congrArg some (by kernel_rfl))
  f152 := Tryz.func61.trans (congrArg some (by kernel_rfl))
  f153 := Tryz.func54.trans (congrArg some (by kernel_rfl))
  f217 := Tryz.func65.trans (congrArg some (by kernel_rfl))
  f224 := Tryz.func75.trans (congrArg some (by kernel_rfl))
  f225 := Tryz.func76.trans (congrArg some (by kernel_rfl))
  f226 := Tryz.func62.trans (congrArg some (by kernel_rfl))
  f227 := Tryz.func63.trans (congrArg some (by kernel_rfl))
  f228 := Tryz.func64.trans (congrArg some (by kernel_rfl))
  f266 := Tryz.func77.trans (congrArg some (by kernel_rfl))
  t0 := Tryz.underlying0
  a0 := Tryz.isAgg0
  z0 := Tryz.sizeOf0
  v0 := Tryz.zeroValue0
  t3 := Tryz.underlying3
  a3 := Tryz.isAgg3
  z3 := Tryz.sizeOf3
  v3 := Tryz.zeroValue3
  t4 := Tryz.underlying4
  a4 := Tryz.isAgg4
  z4 := Tryz.sizeOf4
  v4 := Tryz.zeroValue4
  t5 := Tryz.underlying5
  a5 := Tryz.isAgg5
  z5 := Tryz.sizeOf5
  v5 := Tryz.zeroValue5
  t9 := Tryz.underlying9
  a9 := Tryz.isAgg9
  z9 := Tryz.sizeOf9
  v9 := Tryz.zeroValue9
  t21 := Tryz.underlying21
  a21 := Tryz.isAgg21
  z21 := Tryz.sizeOf21
  v21 := Tryz.zeroValue21
  t46 := Tryz.underlying82
  a46 := Tryz.isAgg82
  z46 := Tryz.sizeOf82
  v46 := Tryz.zeroValue82
  t116 := Tryz.underlying111
  a116 := Tryz.isAgg111
  z116 := Tryz.sizeOf111
  t117 := Tryz.underlying112
  a117 := Tryz.isAgg112
  z117 := Tryz.sizeOf112
  v117 := Tryz.zeroValue112
  t124 := Tryz.underlying131
  a124 := Tryz.isAgg131
  z124 := Tryz.sizeOf131
  v124 := Tryz.zeroValue131 }
open Go.RowKit Go.Lib in
open Go.RowKit Go.Lib in
open Go.RowKit Go.Lib in
open Go.RowKit Go.Lib in
open Go.RowKit Go.Lib in
open Go.RowKit Go.Lib in
theorem Tryz.strings_IndexAny_long (hv116 : ∀ w, (zeroValue 111).run Tryz.prog w = .ok (.agg (Array.replicate 256 (.bool false))) w) (s chars : ByteArray) (w : World) (h2 : 2 ≤ chars.size) (h8 : 8 < s.size) (hs : s.size < 4294967281) (hcs : chars.size < 4294967281) (hascii : ∀ (j : Nat) b, chars.data.toList[j]? = some b → b.toNat < 128) :
    Calls Tryz.prog 54 #[.string s, .string chars] w fun e w' => e = .returned (.int .i64 (Lib.indexAny s.data.toList chars.data.toList)) ∧ w' = ((w.alloc (.cells (Lib.setCells chars.data.toList) 111)).alloc (.cells (Lib.setCells chars.data.toList) 111)) := Any.strings_IndexAny_long Tryz.lays153 hv116 (by kernel_rfl) s chars w h2 h8 hs hcs hascii
open Go.RowKit Go.Lib in
def Tryz.lays150_ren : Go.Shelf.Ren := ⟨fun | 150 => 43 | 153 => 54 | 152 => 61 | 226 => 62 | 227 => 63 | 228 => 64 | 137 => 56 | 119 => 74 | 224 => 75 | 225 => 76 | 217 => 65 | 266 => 77 | n => n, fun | 9 => 9 | 4 => 4 | 3 => 3 | 5 => 5 | 21 => 21 | 117 => 112 | 116 => 111 | 0 => 0 | 46 => 82 | 124 => 131 | n => n, fun | n => n⟩
theorem Tryz.lays150 : Go.Proofs.Lays.n150 Tryz.prog Tryz.lays150_ren := {
  mixed := by kernel_rfl
  f119 := Tryz.func74.trans (congrArg some (by kernel_rfl))
  f137 := Tryz.func56.trans (congrArg some (by kernel_rfl))
  f150 := Tryz.func43.trans (congrArg some (by kernel_rfl))
  f152 := Tryz.func61.trans (congrArg some (by kernel_rfl))
  f153 := Tryz.func54.trans (congrArg some (by kernel_rfl))
  f217 := Tryz.func65.trans (congrArg some (by kernel_rfl))
  f224 := Tryz.func75.trans (congrArg some (by kernel_rfl))
  f225 := Tryz.func76.trans (congrArg some (by kernel_rfl))
  f226 := Tryz.func62.trans (congrArg some (by kernel_rfl))
  f227 := Tryz.func63.trans (congrArg some (by kernel_rfl))
  f228 := Tryz.func64.trans (congrArg some (by kernel_rfl))
  f266 := Tryz.func77.trans (congrArg some (by kernel_rfl))
  t0 := Tryz.underlying0
  a0 := Tryz.isAgg0
  z0 := Tryz.sizeOf0
  v0 := Tryz.zeroValue0
  t3 := Tryz.underlying3
  a3 := Tryz.isAgg3
  z3 := Tryz.sizeOf3
  v3 := Tryz.zeroValue3
  t4 := Tryz.underlying4
  a4 := Tryz.isAgg4
  z4 := Tryz.sizeOf4
  v4 := Tryz.zeroValue4
  t5 := Tryz.underlying5
  a5 := Tryz.isAgg5
  z5 := Tryz.sizeOf5
  v5 := Tryz.zeroValue5
  t9 := Tryz.underlying9
  a9 := Tryz.isAgg9
  z9 := Tryz.sizeOf9
  v9 := Tryz.zeroValue9
  t21 := Tryz.underlying21
  a21 := Tryz.isAgg21
  z21 := Tryz.sizeOf21
  v21 := Tryz.zeroValue21
  t46 := Tryz.underlying82
  a46 := Tryz.isAgg82
  z46 := Tryz.sizeOf82
  v46 := Tryz.zeroValue82
  t116 := Tryz.underlying111
  a116 := Tryz.isAgg111
  z116 := Tryz.sizeOf111
  t117 := Tryz.underlying112
  a117 := Tryz.isAgg112
  z117 := Tryz.sizeOf112
  v117 := Tryz.zeroValue112
  t124 := Tryz.underlying131
  a124 := Tryz.isAgg131
  z124 := Tryz.sizeOf131
  v124 := Tryz.zeroValue131 }
open Go.RowKit Go.Lib in
/-- strings.ContainsAny ON ASCII BYTES. (LAID: no walk: one application.) -/
theorem Tryz.strings_ContainsAny (hv116 : ∀ w, (zeroValue 111).run Tryz.prog w = .ok (.agg (Array.replicate 256 (.bool false))) w) (s chars : ByteArray) (w : World) (hs : s.size < 4294967281) (hcs : chars.size < 4294967281) (has : ∀ (j : Nat) b, s.data.toList[j]? = some b → b.toNat < 128) (hac : ∀ (j : Nat) b, chars.data.toList[j]? = some b → b.toNat < 128) :
    Calls Tryz.prog 43 #[.string s, .string chars] w fun e w' => e = .returned (.bool (Lib.containsAny s.data.toList chars.data.toList)) ∧ Below w.heap.size w w' := Any.strings_ContainsAny Tryz.lays150 hv116 (by kernel_rfl) s chars w hs hcs has hac
open Go.RowKit Go.Lib in
open Go.RowKit Go.Lib in
open Go.RowKit Go.Lib in
open Go.RowKit Go.Lib in
open Go.RowKit Go.Lib in
def Tryz.lays196_ren : Go.Shelf.Ren := ⟨fun | 196 => 31 | 259 => 48 | n => n, fun | 9 => 9 | 4 => 4 | 3 => 3 | 5 => 5 | 12 => 12 | 119 => 78 | 0 => 0 | 46 => 82 | 139 => 81 | 138 => 80 | 53 => 104 | n => n, fun | 3 => 0 | 4 => 1 | n => n⟩
theorem Tryz.lays196 : Go.Proofs.Lays.n196 Tryz.prog Tryz.lays196_ren := {
  mixed := by kernel_rfl
  f196 := Tryz.func31.trans (congrArg some (by kernel_rfl))
  f259 := Tryz.func48.trans (congrArg some (by kernel_rfl))
  t0 := Tryz.underlying0
  a0 := Tryz.isAgg0
  z0 := Tryz.sizeOf0
  v0 := Tryz.zeroValue0
  t3 := Tryz.underlying3
  a3 := Tryz.isAgg3
  z3 := Tryz.sizeOf3
  v3 := Tryz.zeroValue3
  t4 := Tryz.underlying4
  a4 := Tryz.isAgg4
  z4 := Tryz.sizeOf4
  v4 := Tryz.zeroValue4
  t5 := Tryz.underlying5
  a5 := Tryz.isAgg5
  z5 := Tryz.sizeOf5
  v5 := Tryz.zeroValue5
  t9 := Tryz.underlying9
  a9 := Tryz.isAgg9
  z9 := Tryz.sizeOf9
  v9 := Tryz.zeroValue9
  t12 := Tryz.underlying12
  a12 := Tryz.isAgg12
  z12 := Tryz.sizeOf12
  v12 := Tryz.zeroValue12
  t46 := Tryz.underlying82
  a46 := Tryz.isAgg82
  z46 := Tryz.sizeOf82
  v46 := Tryz.zeroValue82
  t53 := Tryz.underlying104
  a53 := Tryz.isAgg104
  z53 := Tryz.sizeOf104
  v53 := Tryz.zeroValue104
  t119 := Tryz.underlying78
  a119 := Tryz.isAgg78
  z119 := Tryz.sizeOf78
  t138 := Tryz.underlying80
  a138 := Tryz.isAgg80
  z138 := Tryz.sizeOf80
  v138 := Tryz.zeroValue80
  t139 := Tryz.underlying81
  a139 := Tryz.isAgg81
  z139 := Tryz.sizeOf81
  v139 := Tryz.zeroValue81
  g3 := by kernel_rfl
  g4 := by kernel_rfl }
end Go.Proofs
end
section
set_option linter.unusedVariables false
set_option linter.unusedSimpArgs false
namespace Go.Proofs.YtknmbalhbecdhaaGreatDoor.Rune
open Go.RowKit
theorem Drawn2.below (w : World) (n : Nat) : Below w.heap.size w (w.drewN n) := ⟨rfl, rfl, rfl, Nat.le_refl _, fun _ _ => rfl⟩
theorem quiet_add_same {P : Program} {f : FuncId} {args : Array Value} {w : World} {a n : Nat} {v : Value}
    (h : Calls P f args (w.drewN (a + n)) fun e w' => e = .returned v ∧ w' = w.drewN (a + n)) :
    Calls P f args (w.drewN (a + n)) fun e w'' => e = .returned v ∧ ∃ m, w'' = w.drewN (a + m) :=
  h.mono fun _ _ ⟨he, hm⟩ => ⟨he, n, hm⟩
theorem indexByte_none (l : List UInt8) (c : UInt8) (h : ∀ b ∈ l, b ≠ c) : Lib.indexByte l c = -1 := by
  induction l with
  | nil => rfl
  | cons b t ih =>
    have h1 : (b == c) = false := beq_eq_false_iff_ne.2 (h b (by simp))
    have h2 := ih (fun x hx => h x (by simp [hx]))
    unfold Lib.indexByte
    rw [h1, h2]; rfl
theorem allx (chars : ByteArray) (hs : ∀ b ∈ chars.data.toList, b.toNat < 128) (a e : Nat) (c : UInt8) (hc : 128 ≤ c.toNat) : Lib.indexByte (chars.extract a e).data.toList c = -1 :=
  indexByte_none _ _ fun b hb hbc => by have := hs b (mem_extract hb); rw [hbc] at this; omega
theorem at_lt (chars : ByteArray) (hs : ∀ b ∈ chars.data.toList, b.toNat < 128) (i : Nat) (h : i < chars.size) : (chars[i]'h).toNat < 128 :=
  hs _ (Array.getElem_mem_toList (xs := chars.data) h)
set_option maxHeartbeats 2000000 in
set_option maxRecDepth 100000 in
theorem IndexRune_fffd (chars : ByteArray) (hs : ∀ b ∈ chars.data.toList, b.toNat < 128) (w : World) :
    Calls Tryz.prog 61 #[.string chars, .int .i32 65533] w fun e w' => e = .returned (.int .i64 (-1)) ∧ Below w.heap.size w w' := by
  have HS := Lib.hid hs
  clear hs
  go_enter Tryz.func61, Tryz.ntmps61
  go_wp2
  go_loopg [5, 6] chars.size (fun g _ _ wx => ∃ i : Nat, i + g = chars.size ∧ wx = w.iter chars i)
  case atStart => exact ⟨0, by omega, rfl⟩
  case round =>
    obtain ⟨i, hig, rfl⟩ := hrel
    cases gk with
    | zero =>
      obtain rfl : i = chars.size := by omega
      have hnx := run_next_end (P := Tryz.prog) w chars chars.size
      go_wp2
      go_ret
      exact ⟨rfl, (Below.refl _ _).alloc (Nat.le_refl _) _⟩
    | succ g =>
      have hi : i < chars.size := by omega
      have hx128 := at_lt chars HS.out i hi
      obtain ⟨x, hx⟩ : ∃ x : UInt8, chars[i]'hi = x := ⟨_, rfl⟩
      have hnx := fun ty => run_next_ascii (P := Tryz.prog) w chars i ty hi hx128
      rw [hx] at hnx hx128
      have hne : ((x.toNat : Int) == 65533) = false := beq_eq_false_iff_ne.2 (by omega)
      clear hx
      go_wp2
      go_roundg g
      case measure => omega
      case rel => exact ⟨i + 1, by omega, rfl⟩
set_option maxHeartbeats 4000000 in
set_option maxRecDepth 100000 in
theorem IndexRune_high (chars : ByteArray) (hs : ∀ b ∈ chars.data.toList, b.toNat < 128) (hc : chars.size ≤ 1000) (r : Int) (h0 : 128 ≤ r) (hv : validRune r = true) (hne : r ≠ 65533) (w : World) :
    Calls Tryz.prog 61 #[.string chars, .int .i32 r] w fun e w' => e = .returned (.int .i64 (-1)) ∧ Below w.heap.size w w' := by
  have HS := Lib.hid hs
  clear hs
  obtain ⟨h2, h4, hlast⟩ := encode_facts r (by rw [validRune_eq]; exact hv) h0
  have HV : Lib.validRune r = true := hv
  generalize he : Utf8.encode r = rs at *
  have hlt0 : rs.size - 1 < rs.size := by omega
  have hl128 := hlast hlt0
  clear hlast
  have HE := Lib.hid he
  have HVh := Lib.hid HV
  have HNE := Lib.hid hne
  clear he HV hv hne
  have t1 : decide (0 ≤ r) = true := by simp; omega
  have t2 : decide (r < 128) = false := by simp; omega
  have t3 : (r == 65533) = false := beq_eq_false_iff_ne.2 HNE.out
  obtain ⟨last, hlast⟩ : ∃ n : Nat, n = rs.size - 1 := ⟨_, rfl⟩
  have e1 : rs.size = last + 1 := by omega
  have hw1 : IntKind.i64.wrap ((rs.size : Int) - 1) = (last : Int) := by rw [e1]; unfold IntKind.wrap; simp [IntKind.bits, IntKind.signed]; omega
  have E1 := Lib.hid e1
  clear hlast
  have hlr : last < rs.size := by omega
  obtain ⟨x, hx⟩ : ∃ x : UInt8, rs[last]'hlr = x := ⟨_, rfl⟩
  have hx128 : 128 ≤ x.toNat := by rw [← hx]; have h9 := hl128; simp only [e1, Nat.add_sub_cancel] at h9; exact h9
  clear hl128 e1 hlt0
  by_cases hin : last < chars.size
  · have hy128 := at_lt chars HS.out last hin
    obtain ⟨y, hy⟩ : ∃ y : UInt8, chars[last]'hin = y := ⟨_, rfl⟩
    rw [hy] at hy128
    have hyx : ((y.toNat : Int) == (x.toNat : Int)) = false := beq_eq_false_iff_ne.2 (by omega)
    have hyx' : ((y.toNat : Int) != (x.toNat : Int)) = true := bne_iff_ne.2 (by omega)
    have hd1 : decide ((last : Int) < (chars.size : Int)) = true := by simp; omega
    have hd2 : decide (last < chars.size) = true := by simp; omega
    have w2 : IntKind.i64.wrap ((last : Int) + 1) = (last : Int) + 1 := by unfold IntKind.wrap; simp [IntKind.bits, IntKind.signed]; omega
    go_enter Tryz.func61, Tryz.ntmps61
    go_wp2_with (first | (go_at_call 74; refine (Tryz.utf8_ValidRune r _).mono ?_; rintro e w' ⟨rfl, hw⟩; rw [hw, HVh.out]; clear hw))
    have he := HE.out
    have e1 := E1.out
    go_step3
    go_wp2
    clear he e1
    refine wp_loop_rounds 1 ?_
    rw [rounds_succ]
    go_wp2
    go_step3
    go_wp2
    go_quiet (fail)
    go_wp2
    have hle : last + 1 ≤ chars.size := by omega
    have hle2 : (last : Int) + 1 ≤ (chars.size : Int) := by omega
    have h01 : (0 : Int) ≤ (last : Int) + 1 := by omega
    have hsl : ((last : Int) + 1).toNat = last + 1 := by omega
    have hix := allx chars HS.out (last + 1) chars.size x hx128
    have hix2 : Lib.indexByte (chars.extract (last + 1) chars.size).data.toList ((x.toNat : Int)).toNat.toUInt8 = -1 := by rw [← hix]; congr 1; simp
    go_quiet ((go_at_call 56; exact quiet_add_same (Tryz.strings_IndexByte _ _ _)))
    rw [hix2]
    go_wp2
    rw [Exit.noGoto_ret]
    go_wp2
    rw [Exit.noGoto_ret]
    go_ret
    exact ⟨rfl, (Drawn2.below _ _)⟩
  · have hd1 : decide ((last : Int) < (chars.size : Int)) = false := by simp; omega
    have hd2 : decide (last < chars.size) = false := by simp; omega
    go_enter Tryz.func61, Tryz.ntmps61
    go_wp2_with (first | (go_at_call 74; refine (Tryz.utf8_ValidRune r _).mono ?_; rintro e w' ⟨rfl, hw⟩; rw [hw, HVh.out]; clear hw))
    have he := HE.out
    have e1 := E1.out
    go_step3
    go_wp2
    clear he e1
    refine wp_loop_rounds 1 ?_
    rw [rounds_succ]
    go_wp2
    rw [Exit.noGoto_ret]
    go_ret
    exact ⟨rfl, Below.refl _ _⟩
theorem IndexRune_any (chars : ByteArray) (hs : ∀ b ∈ chars.data.toList, b.toNat < 128) (hc : chars.size ≤ 1000) (r : Nat) (h0 : 128 ≤ r) (hv : validRune (r : Int) = true) (w : World) :
    Calls Tryz.prog 61 #[.string chars, .int .i32 r] w fun e w' => e = .returned (.int .i64 (-1)) ∧ Below w.heap.size w w' := by
  by_cases h : r = 65533
  · subst h; exact IndexRune_fffd chars hs w
  · exact IndexRune_high chars hs hc r (by omega) hv (by omega) w
structure Aside0 (p : Prop) : Prop where mk :: (out : p)
theorem below_iterAt {B : Nat} {a w : World} (h : Below B a w) (k : Nat) (hk : B ≤ k) (s : ByteArray) (p : Nat) : Below B a (w.iterAt k s p) := by
  refine ⟨h.os, h.tape, h.output, ?_, fun i hi => ?_⟩
  · have := h.size; simpa [World.iterAt] using this
  · have h1 := h.block i hi
    rw [← h1]
    simp only [World.iterAt]
    rw [Array.getElem?_setIfInBounds_ne (by omega)]
theorem get!_at (s : ByteArray) (i : Nat) (h : i < s.size) : s.get! i = s[i]'h := by
  have : s[i]! = s[i]'h := getElem!_pos s i h
  cases s with | mk a => simp [ByteArray.get!] at *; exact getElem!_pos a i h
theorem dec_high (s : ByteArray) (i : Nat) (h : i < s.size) (hb : 128 ≤ (s[i]'h).toNat) :
    1 ≤ (Utf8.decode s i).2 ∧ i + (Utf8.decode s i).2 ≤ s.size ∧ (∀ j b, i ≤ j → j < i + (Utf8.decode s i).2 → s.data.toList[j]? = some b → 128 ≤ b.toNat) ∧ 128 ≤ (Utf8.decode s i).1 ∧ validRune ((Utf8.decode s i).1 : Int) = true := by
  have hpos := Lib.decode_width_pos s i h
  rw [Lib.decode_at] at *
  have hb0 : 128 ≤ (s.get! i).toNat := by rw [get!_at s i h]; exact hb
  have k0 := (s.get! i).toNat_lt
  have hle := Lib.decodeN_width_le (s.size - i) (s.get! i).toNat (s.get! (i + 1)).toNat (s.get! (i + 2)).toNat (s.get! (i + 3)).toNat (by omega)
  have hc := Lib.decodeN_conts (s.size - i) (s.get! i).toNat (s.get! (i + 1)).toNat (s.get! (i + 2)).toNat (s.get! (i + 3)).toNat
  have hv := Lib.decodeN_valid (s.size - i) (s.get! i).toNat (s.get! (i + 1)).toNat (s.get! (i + 2)).toNat (s.get! (i + 3)).toNat k0
  have hcs := Lib.decodeN_cases (s.size - i) (s.get! i).toNat (s.get! (i + 1)).toNat (s.get! (i + 2)).toNat (s.get! (i + 3)).toNat
  generalize Lib.decodeN (s.size - i) (s.get! i).toNat (s.get! (i + 1)).toNat (s.get! (i + 2)).toNat (s.get! (i + 3)).toNat = d at *
  obtain ⟨r, n⟩ := d
  simp only at *
  refine ⟨hpos, by omega, fun j b hj1 hj2 hb' => ?_, ?_, ?_⟩
  · obtain ⟨hlt, hbe⟩ := List.getElem?_eq_some_iff.1 hb'
    have hjs : j < s.size := by omega
    have e : s.get! j = b := by rw [get!_at s j hjs, ← hbe]; rfl
    obtain rfl | rfl | rfl | rfl : j = i ∨ j = i + 1 ∨ j = i + 2 ∨ j = i + 3 := by omega
    · rw [← e]; exact hb0
    · rw [← e]; have := hc.1 (by omega); omega
    · rw [← e]; have := hc.2.1 (by omega); omega
    · rw [← e]; have := hc.2.2.1 (by omega); omega
  · rcases hcs with h1 | h1 | h1 | h1 | h1
    · omega
    · have := h1.2.2.2.2; simp at this; omega
    · have := h1.2.2.2.2.2; simp at this; omega
    · omega
    · have := h1; simp at this; omega
  · unfold validRune
    simp
    omega
theorem contains_high (chars : List UInt8) (hs : ∀ b ∈ chars, b.toNat < 128) (b : UInt8) (hb : 128 ≤ b.toNat) : chars.contains b = false := by
  cases h : chars.contains b
  · rfl
  · have := hs b (by simpa using h); omega
theorem noAny_high {s chars : List UInt8} (hs : ∀ b ∈ chars, b.toNat < 128) {i n : Nat} (h : Lib.NoAny s chars i) (hb : ∀ j b, i ≤ j → j < i + n → s[j]? = some b → 128 ≤ b.toNat) : Lib.NoAny s chars (i + n) := fun j b hj hx => by
  by_cases hji : j < i
  · exact h j b hji hx
  · exact contains_high chars hs b (hb j b (by omega) hj hx)
set_option maxHeartbeats 4000000 in
set_option maxRecDepth 100000 in
theorem IndexAny_short (s chars : ByteArray) (hs : ∀ b ∈ chars.data.toList, b.toNat < 128) (h2 : 2 ≤ chars.size) (hc : chars.size ≤ 1000) (h8 : s.size ≤ 8) (w : World) :
    Calls Tryz.prog 54 #[.string s, .string chars] w fun e w' => e = .returned (.int .i64 (Lib.indexAny s.data.toList chars.data.toList)) ∧ Below w.heap.size w w' := by
  have HS := Lib.hid hs
  clear hs
  have hemp : chars.toList.isEmpty = false := by
    rw [Lib.toList_data]
    cases h : chars.data.toList with
    | nil => have := Lib.size_eq chars; rw [h, List.length_nil] at this; omega
    | cons _ _ => rfl
  have hn1 : ((chars.size : Int) == 1) = false := beq_eq_false_iff_ne.2 (by omega)
  have h8z : decide ((8 : Int) < (s.size : Int)) = false := decide_eq_false (by omega)
  go_enter Tryz.func54, Tryz.ntmps54
  go_wp2_with (go_at_call 62; refine (Tryz.strings_shouldUseASCIISet _ _).mono ?_; rintro e w' ⟨rfl, hw⟩; rw [hw, h8z]; clear hw)
  go_loopg [9, 10] s.size (fun g _ _ wx => ∃ i : Nat, i ≤ s.size ∧ s.size ≤ i + g ∧ Aside0 (Below w.heap.size w wx) ∧ Aside0 (wx.heap[w.heap.size]? = some (.stringIter s i)) ∧ Aside0 (Lib.NoAny s.data.toList chars.data.toList i))
  case atStart => exact ⟨0, by omega, by omega, ⟨(Below.refl _ _).alloc (Nat.le_refl _) _⟩, ⟨World.iter_heap _ _ _⟩, ⟨Lib.NoAny.zero _ _⟩⟩
  case round =>
    obtain ⟨i, hig, hgs, HB, HI, HN⟩ := hrel
    by_cases hi : i < s.size
    · cases gk with
      | zero => omega
      | succ g =>
        by_cases hx128 : (s[i]'hi).toNat < 128
        · obtain ⟨x, hx⟩ : ∃ x : UInt8, s[i]'hi = x := ⟨_, rfl⟩
          have hxl : s.data.toList[i]? = some x := by rw [← hx]; exact Lib.data_getElem? s i hi
          have hnx := fun ty => Lib.run_next_ascii_at (P := Tryz.prog) wr w.heap.size s i ty HI.out hi hx128
          rw [hx] at hnx hx128
          have Hx : Aside0 (s.data.toList[i]? = some x) := ⟨hxl⟩
          clear hxl hx
          have hcon := Lib.contains_iff_indexByte chars.data.toList x
          have hback : ((x.toNat : Int)).toNat.toUInt8 = x := by simp
          have HB2 : Aside0 (Below w.heap.size w (wr.iterAt w.heap.size s (i + 1))) := ⟨below_iterAt HB.out _ (Nat.le_refl _) _ _⟩
          have HI2 : Aside0 ((wr.iterAt w.heap.size s (i + 1)).heap[w.heap.size]? = some (.stringIter s (i + 1))) := ⟨Lib.iterAt_heap wr _ s i (i + 1) HI.out⟩
          cases hin : chars.data.toList.contains x
          · rw [hin] at hcon
            have hlt : ¬ ((0 : Int) ≤ Lib.indexByte chars.data.toList x) := of_decide_eq_false hcon.symm
            clear hcon
            go_wp2_with (go_at_call 61; refine (Tryz.strings_IndexRune_ascii _ _ _ (by omega) (by omega)).mono ?_; rintro e w' ⟨rfl, hw⟩; rw [hw, hback]; clear hw)
            go_roundg g
            case measure => omega
            case rel => exact ⟨i + 1, by omega, by omega, HB2, HI2, ⟨HN.out.succ Hx.out hin⟩⟩
          · rw [hin] at hcon
            have hge : (0 : Int) ≤ Lib.indexByte chars.data.toList x := of_decide_eq_true hcon.symm
            clear hcon
            go_wp2_with (go_at_call 61; refine (Tryz.strings_IndexRune_ascii _ _ _ (by omega) (by omega)).mono ?_; rintro e w' ⟨rfl, hw⟩; rw [hw, hback]; clear hw)
            go_ret
            exact ⟨by rw [Lib.indexAny_hit HN.out Hx.out hin]; rfl, HB2.out⟩
        · obtain ⟨d1, d2, d3, d4, d5⟩ := dec_high s i hi (by omega)
          have hnx := fun ty => Lib.run_next_any_at (P := Tryz.prog) wr w.heap.size s i ty HI.out hi
          generalize hd : Utf8.decode s i = d at *
          obtain ⟨r, n⟩ := d
          simp only at *
          have HB2 : Aside0 (Below w.heap.size w (wr.iterAt w.heap.size s (i + n))) := ⟨below_iterAt HB.out _ (Nat.le_refl _) _ _⟩
          have HI2 : Aside0 ((wr.iterAt w.heap.size s (i + n)).heap[w.heap.size]? = some (.stringIter s (i + n))) := ⟨Lib.iterAt_heap wr _ s i (i + n) HI.out⟩
          have HN2 : Aside0 (Lib.NoAny s.data.toList chars.data.toList (i + n)) := ⟨noAny_high HS.out HN.out d3⟩
          clear hd d3
          have hneg : decide ((0 : Int) ≤ -1) = false := by decide
          have hlt2 : w.heap.size < (wr.iterAt w.heap.size s (i + n)).heap.size := (Array.getElem?_eq_some_iff.1 HI2.out).1
          go_wp2_with (go_at_call 61; refine (IndexRune_any chars HS.out hc r (by omega) d5 _).mono ?_; rintro e w' ⟨rfl, hb⟩)
          go_roundg g
          case measure => omega
          case rel => exact ⟨i + n, by omega, by omega, ⟨HB2.out.trans (hb.mono (by omega))⟩, ⟨(hb.block _ hlt2).trans HI2.out⟩, HN2⟩
    · have hnx := fun ty => Lib.run_next_end_at (P := Tryz.prog) wr w.heap.size s i ty HI.out hi
      go_wp2
      go_ret
      exact ⟨by rw [Lib.indexAny_none (by rw [← Lib.size_eq]; have : i = s.size := by omega
                                          rw [← this]; exact HN.out)]; rfl, HB.out⟩
end Go.Proofs.YtknmbalhbecdhaaGreatDoor.Rune
end
section
set_option linter.unusedVariables false
set_option linter.unusedSimpArgs false
namespace Go.Proofs.YtknmbalhbecdhaaGreatDoor.Print
open Go.RowKit Go.Proofs.YtknmbalhbecdhaaGreatDoorW.PrintWords Go.Proofs.YtknmbalhbecdhaaGreatDoorW.PrintLast
theorem bne_nil_isEmpty (l : List UInt8) : (l != []) = !l.isEmpty := by cases l <;> rfl
theorem beq_nil_isEmpty (l : List UInt8) : (l == []) = l.isEmpty := by cases l <;> rfl
structure GG (w : World) : Prop where
  u8 : Lib.Utf8Tabs 0 1 w
theorem GG.below {w w' : World} (h : GG w) (hb : Below w.heap.size w w') : GG w' := ⟨Utf8Tabs_below h.u8 hb⟩
theorem GG.drewN {w : World} (h : GG w) (n : Nat) : GG (w.drewN n) := h.below (pw_below_drewN (Below.refl _ _) n)
theorem GG.drew {w : World} (h : GG w) : GG w.drew := h.below (below_drew (Below.refl _ _))
theorem GG.alloc {w : World} (h : GG w) (o : Obj) : GG (w.alloc o) := h.below (below_alloc (Below.refl _ _) o)
def strings_IndexByte.f (a0 : ByteArray) (a1 : Int) : Option Int := some (Lib.indexByte a0.data.toList a1.toNat.toUInt8)
theorem strings_IndexByte.calls (a0 : ByteArray) (a1 : Int) (r : Int) (w : World) (hG : GG w) (h : strings_IndexByte.f a0 a1 = some r) :
    Calls Tryz.prog 56 #[.string a0, .int .u8 a1] w fun e w' => e = .returned (.int .i64 r) ∧ Drawn0 w w' := by
  obtain rfl := Option.some.inj h
  exact (Tryz.strings_IndexByte a0 a1 w).mono fun e w' ⟨he, hw⟩ => ⟨he, hw ▸ Drawn0.refl _⟩
def utf8_ValidString.f (a0 : ByteArray) : Option Bool := if a0.size ≤ 9223372036854775807 then some (Lib.validD a0.data.toList) else none
theorem utf8_ValidString.calls (a0 : ByteArray) (r : Bool) (w : World) (hG : GG w) (h : utf8_ValidString.f a0 = some r) :
    Calls Tryz.prog 31 #[.string a0] w fun e w' => e = .returned (.bool r) ∧ Below w.heap.size w w' := by
  by_cases hs : a0.size ≤ 9223372036854775807
  · simp only [utf8_ValidString.f] at h
    rw [if_pos hs] at h
    obtain rfl := Option.some.inj h
    exact Any.utf8_ValidString Tryz.lays196 a0 w hs hG.u8
  · simp only [utf8_ValidString.f] at h
    rw [if_neg hs] at h
    cases h
def strings_ContainsAny.f (a0 a1 : ByteArray) : Option Bool := if a0.size < 4294967281 ∧ 2 ≤ a1.size ∧ a1.size ≤ 1000 ∧ a1.data.toList.all (fun b => decide (b.toNat < 128)) = true then some (Lib.containsAny a0.data.toList a1.data.toList) else none
set_option maxHeartbeats 1000000 in
theorem strings_ContainsAny.calls (a0 a1 : ByteArray) (r : Bool) (w : World) (hG : GG w) (h : strings_ContainsAny.f a0 a1 = some r) :
    Calls Tryz.prog 43 #[.string a0, .string a1] w fun e w' => e = .returned (.bool r) ∧ Below w.heap.size w w' := by
  by_cases hs : a0.size < 4294967281 ∧ 2 ≤ a1.size ∧ a1.size ≤ 1000 ∧ a1.data.toList.all (fun b => decide (b.toNat < 128)) = true
  · simp only [strings_ContainsAny.f] at h
    rw [if_pos hs] at h
    obtain rfl := Option.some.inj h
    obtain ⟨h1, h2, h3, h4⟩ := hs
    have hall : ∀ b ∈ a1.data.toList, b.toNat < 128 := fun b hb => by simpa using List.all_eq_true.1 h4 b hb
    have hidx : ∀ W : World, Calls Tryz.prog 54 #[.string a0, .string a1] W fun e w' => e = .returned (.int .i64 (Lib.indexAny a0.data.toList a1.data.toList)) ∧ Below W.heap.size W w' := fun W => by
      by_cases h8 : a0.size ≤ 8
      · exact Rune.IndexAny_short a0 a1 hall h2 h3 h8 W
      · refine (Tryz.strings_IndexAny_long (fun _ => by kernel_rfl) a0 a1 W h2 (by omega) h1 (by omega) (fun j b hb => hall b (List.mem_of_getElem? hb))).mono ?_
        rintro e w' ⟨he, hw⟩
        exact ⟨he, by rw [hw]; exact ((Below.refl _ _).alloc (Nat.le_refl _) _).alloc (by simp) _⟩
    clear h4
    have H := Lib.hid hidx
    clear hidx
    go_enter Tryz.func43, Tryz.ntmps43
    go_wp2_with (go_at_call 54; refine (H.out _).mono ?_; rintro e w' ⟨rfl, hb⟩)
    go_ret
    exact ⟨rfl, hb⟩
  · simp only [strings_ContainsAny.f] at h
    rw [if_neg hs] at h
    cases h
end Go.Proofs.YtknmbalhbecdhaaGreatDoor.Print
end
section
set_option linter.unusedVariables false
namespace Go.Proofs.YtknmbalhbecdhaaGreatDoor.Tabs
open Go Go.RowKit Go.Lib
def gFirst : Nat := 0
def gAccept : Nat := 1
theorem gg_of_reads {w : World} (h3 : VarReads Tryz.prog w "unicode/utf8.first" firstData) (h4 : VarReads Tryz.prog w "unicode/utf8.acceptRanges" acceptData) : Print.GG w :=
  ⟨utf8Tabs_of_readsT (U8Types.of196 Tryz.lays196) ⟨by kernel_rfl, by kernel_rfl, by kernel_rfl, by kernel_rfl, by kernel_rfl, by kernel_rfl, by kernel_rfl⟩ h3 h4⟩
theorem gg_of_laid {W : World} (h : laidMet Tryz.prog [("unicode/utf8.acceptRanges", Rows.laid_unicode_utf8_acceptRanges), ("unicode/utf8.first", Rows.laid_unicode_utf8_first)] W) : Print.GG W :=
  gg_of_reads (by have := Lib.laidMet.reads h (n := "unicode/utf8.first") (.tail _ (.head _)); rw [show Rows.laid_unicode_utf8_first = firstData from Pinned.utf8First_eq] at this; exact this) (Lib.laidMet.reads h (n := "unicode/utf8.acceptRanges") (.head _))
end Go.Proofs.YtknmbalhbecdhaaGreatDoor.Tabs
end
section
set_option linter.unusedVariables false
set_option linter.unusedSimpArgs false
namespace Go.Proofs.YtknmbalhbecdhaaGreatDoor.Args
open Go Go.RowKit Go.Lib Go.Proofs.YtknmbalhbecdhaaGreatDoorW.PrintWords
/-- A type's data read as a kind, with what the form's reach says of it. -/
def Rd {α : Type} (d : Kd α) (t : TypeId) (B : α → Prop) : Prop := ∀ (H : Type) (enc : TypeId × Value → H) (W : World) (fuel : Nat) (cs : List Value) (x : DataW H × List MemPlace), DataW.trod enc Tryz.prog W 0 (fun _ => true) true fuel t cs = some x → (∀ n ∈ x.1.weights Tryz.prog t, n ≤ reachBytes) → ∃ a, d.K W a cs ∧ B a
theorem Rd.string {t : TypeId} (ht : Tryz.prog.underlying t = some .string) : Rd Kd.string t (fun s => s.size ≤ 140737488351232) := by
  intro H enc W fuel cs x h hw
  obtain ⟨s, rfl, rfl, _⟩ := DataW.trod_string ht h
  refine ⟨s, rfl, ?_⟩
  have := hw s.data.toList.length (by simp [DataW.weights])
  rw [Array.length_toList] at this
  exact this
theorem Rd.int {k : IntKind} {t : TypeId} (ht : Tryz.prog.underlying t = some (.int k)) : Rd (Kd.int k) t (fun n => (Lit.int k n).wf = true) := by
  intro H enc W fuel cs x h hw
  obtain ⟨n, rfl, rfl, hn⟩ := DataW.trod_int ht h
  exact ⟨n, rfl, hn⟩
theorem Rd.bool {t : TypeId} (ht : Tryz.prog.underlying t = some .bool) : Rd Kd.bool t (fun _ => True) := by
  intro H enc W fuel cs x h hw
  obtain ⟨b, rfl, rfl⟩ := DataW.trod_bool ht h
  exact ⟨b, rfl, trivial⟩
theorem exists_list {α : Type} {Q : Nat → α → Prop} : ∀ (n : Nat), (∀ i, i < n → ∃ a, Q i a) → ∃ l : List α, l.length = n ∧ ∀ i a, l[i]? = some a → Q i a
  | 0, _ => ⟨[], rfl, fun i a h => by simp at h⟩
  | n + 1, h => by
    obtain ⟨l, hl, hq⟩ := exists_list n (fun i hi => h i (by omega))
    obtain ⟨a, ha⟩ := h n (by omega)
    refine ⟨l ++ [a], by simp [hl], fun i b hb => ?_⟩
    by_cases hi : i < n
    · rw [List.getElem?_append_left (by omega)] at hb; exact hq i b hb
    · have hlt := (List.getElem?_eq_some_iff.1 hb).1
      rw [List.length_append, List.length_singleton] at hlt
      obtain rfl : i = n := by omega
      rw [List.getElem?_append_right (by omega), hl, Nat.sub_self] at hb
      obtain rfl : a = b := by simpa using hb
      exact ha
theorem mem_weightsAll {H : Type} {e : TypeId} {d : DataW H} : ∀ {l : List (DataW H)}, d ∈ l → ∀ n ∈ d.weights Tryz.prog e, n ∈ DataW.weightsAll Tryz.prog e l
  | x :: t, h, n, hn => by
    simp only [DataW.weightsAll, List.mem_append]
    rcases List.mem_cons.1 h with rfl | h
    · exact .inl hn
    · exact .inr (mem_weightsAll h n hn)
theorem Rd.slice {α : Type} {d : Kd α} {t e : TypeId} {B : α → Prop} (ht : Tryz.prog.underlying t = some (.slice e)) (hc : Tryz.prog.cellsOf e = d.sz) (hz : 0 < d.sz) (nb : Nat) (hnb : Tryz.prog.bytesOf e = nb) (hd : Rd d e B) : Rd (Kd.slice e d) t (fun l => l.length * nb ≤ 140737488351232 ∧ ∀ a ∈ l, B a) := by
  subst hnb
  intro H enc W fuel cs x h hw
  rcases DataW.trod_slice ht h with ⟨rfl, rfl⟩ | ⟨a, len, cap, elems, rest, n, rfl, rfl, rfl, _, hlc, hcm, hel, hget, _, _⟩
  · exact ⟨[], ⟨none, 0, rfl, Nat.le_refl _, rfl, by simp, fun h => absurd h (by simp)⟩, by simp, fun a h => by simp at h⟩
  · have hws : ∀ q ∈ ((DataW.slice (elems.map (·.1)) (rest.map (·.1))) : DataW H).weights Tryz.prog t, q ≤ reachBytes := hw
    simp only [DataW.weights, ht] at hws
    have hq : ∀ i, i < len → ∃ a', ∃ c : List Value, (c.length = d.sz ∧ d.K W a' c ∧ ∀ j u, c[j]? = some u → W.cell? (a.add (i * d.sz + j)) = some u) ∧ B a' := by
      intro i hi
      have h1 := hget i hi
      have hie : i < elems.length := by omega
      rw [List.getElem?_eq_getElem hie] at h1
      obtain ⟨cs', hcs, htr⟩ := Option.bind_eq_some_iff.1 h1
      obtain ⟨_, hcl, hcc⟩ := World.cells?_some hcs
      obtain ⟨a', hK, hB⟩ := hd H enc W n cs' elems[i] htr (fun q hq => hws q (List.mem_cons_of_mem _ (List.mem_append_left _ (mem_weightsAll (List.mem_map.2 ⟨elems[i], List.getElem_mem hie, rfl⟩) q hq))))
      refine ⟨a', cs', ⟨by rw [hcl, hc], hK, fun j u hu => ?_⟩, hB⟩
      have hj : j < Tryz.prog.cellsOf e := by have := (List.getElem?_eq_some_iff.1 hu).1; omega
      have h2 := hcc j hj
      rw [Go.Deep.add_add, hc] at h2
      rw [h2, hu]
    obtain ⟨l, hl, hQ⟩ := exists_list len hq
    refine ⟨l, ⟨some a, cap, by rw [hl], by omega, rfl, by unfold maxLen at hcm; omega, fun _ => ⟨a, rfl, fun j p hj => ?_⟩⟩, ?_, fun p hp => ?_⟩
    · obtain ⟨c, ⟨h1, h2, h3⟩, _⟩ := hQ j p hj
      exact ⟨c, h1, h2, h3⟩
    · have := hws _ List.mem_cons_self
      rw [List.length_map, List.length_map, hel] at this
      rw [hl]
      refine Nat.le_trans (Nat.mul_le_mul_right _ (by omega)) this
    · obtain ⟨i, hi, rfl⟩ := List.mem_iff_getElem.1 hp
      exact (hQ i _ (List.getElem?_eq_getElem hi)).choose_spec.2
/-- Fields, one behind the other. -/
def Trods {H : Type} (enc : TypeId × Value → H) (W : World) (fuel : Nat) : List TypeId → List Value → List (DataW H × List MemPlace) → Prop
  | [], cs, xs => cs = [] ∧ xs = []
  | t :: ts, cs, xs => ∃ c0 c1 x0 x1, cs = c0 ++ c1 ∧ xs = x0 :: x1 ∧ DataW.trod enc Tryz.prog W 0 (fun _ => true) true fuel t c0 = some x0 ∧ Trods enc W fuel ts c1 x1
def RdF {α : Type} (d : Kd α) (ts : List TypeId) (B : α → Prop) : Prop := ∀ (H : Type) (enc : TypeId × Value → H) (W : World) (fuel : Nat) (cs : List Value) (xs : List (DataW H × List MemPlace)), Trods enc W fuel ts cs xs → (∀ n ∈ DataW.weightsEach Tryz.prog ts (xs.map (·.1)), n ≤ reachBytes) → ∃ a, d.K W a cs ∧ B a
theorem RdF.one {α : Type} {d : Kd α} {t : TypeId} {B : α → Prop} (h : Rd d t B) : RdF d [t] B := by
  intro H enc W fuel cs xs ht hw
  obtain ⟨c0, c1, x0, x1, rfl, rfl, h0, rfl, rfl⟩ := ht
  rw [List.append_nil]
  exact h H enc W fuel c0 x0 h0 (fun n hn => hw n (by simp only [List.map_cons, DataW.weightsEach]; exact List.mem_append_left _ hn))
theorem RdF.cons {α β : Type} {d0 : Kd α} {d1 : Kd β} {t : TypeId} {ts : List TypeId} {B0 : α → Prop} {B1 : β → Prop} (h0 : Rd d0 t B0) (h1 : RdF d1 ts B1) : RdF (Kd.pair d0 d1) (t :: ts) (fun x => B0 x.1 ∧ B1 x.2) := by
  intro H enc W fuel cs xs ht hw
  obtain ⟨c0, c1, x0, x1, rfl, rfl, g0, g1⟩ := ht
  obtain ⟨a, ha, hb⟩ := h0 H enc W fuel c0 x0 g0 (fun n hn => hw n (by simp only [List.map_cons, DataW.weightsEach]; exact List.mem_append_left _ hn))
  obtain ⟨b, hb1, hb2⟩ := h1 H enc W fuel c1 x1 g1 (fun n hn => hw n (by simp only [List.map_cons, DataW.weightsEach]; exact List.mem_append_right _ hn))
  exact ⟨(a, b), ⟨c0, c1, rfl, ha, hb1⟩, hb, hb2⟩
/-- Do the fields lie one behind the other? -/
def contig (P : Program) (total : Nat) : Nat → List Field → Bool
  | o, [] => o == total
  | o, f :: r => f.offset == o && contig P total (o + P.cellsOf f.type) r
theorem contig_le {total : Nat} : ∀ {fs : List Field} {o : Nat}, contig Tryz.prog total o fs = true → o ≤ total
  | [], o, h => by have : o = total := by simpa [contig] using h
                   omega
  | f :: r, o, h => by
    simp only [contig, Bool.and_eq_true] at h
    have := contig_le h.2
    omega
theorem trods_of {H : Type} {enc : TypeId × Value → H} {W : World} {n : Nat} {cs : List Value} : ∀ (fs : List Field) (xs : List (DataW H × List MemPlace)) (o : Nat), contig Tryz.prog cs.length o fs = true → xs.length = fs.length →
    (∀ (i : Nat) (f : Field), fs[i]? = some f → DataW.trod enc Tryz.prog W 0 (fun _ => true) true n f.type ((cs.drop f.offset).take (Tryz.prog.cellsOf f.type)) = xs[i]?) → Trods enc W n (fs.map (·.type)) (cs.drop o) xs
  | [], xs, o, hc, hl, _ => by
    have : o = cs.length := by simpa [contig] using hc
    exact ⟨List.drop_eq_nil_of_le (by omega), List.length_eq_zero_iff.1 hl⟩
  | f :: r, xs, o, hc, hl, h => by
    simp only [contig, Bool.and_eq_true, beq_iff_eq] at hc
    cases xs with
    | nil => simp at hl
    | cons x0 x1 =>
      have h0 := h 0 f rfl
      have hoff := hc.1
      have hle := contig_le hc.2
      refine ⟨(cs.drop o).take (Tryz.prog.cellsOf f.type), cs.drop (o + Tryz.prog.cellsOf f.type), x0, x1, ?_, rfl, by rw [hoff] at h0; exact h0, trods_of r x1 _ hc.2 (by simpa using hl) (fun i g hg => h (i + 1) g hg)⟩
      rw [← List.drop_drop, List.take_append_drop]
theorem Rd.struct {α β : Type} {d : Kd α} {t : TypeId} {fs : Array Field} {B : α → Prop} (f : β → α) (g : α → β) (hfg : ∀ a, f (g a) = a) (ht : Tryz.prog.underlying t = some (.struct fs)) (hc : contig Tryz.prog (Tryz.prog.cellsOf t) 0 fs.toList = true) (h : RdF d (fs.toList.map (·.type)) B) : Rd (Kd.iso d f) t (fun b => B (f b)) := by
  intro H enc W fuel cs x hx hw
  obtain ⟨xs, n, rfl, rfl, hl, hlen, hf⟩ := DataW.trod_struct ht hx
  have hT := trods_of (enc := enc) (W := W) (n := n) (cs := cs) fs.toList xs 0 (by rw [hl]; exact hc) (by simpa using hlen) (fun i q hq => hf i q (by simpa using hq))
  rw [List.drop_zero] at hT
  obtain ⟨a, ha, hB⟩ := h H enc W n cs xs hT (fun q hq => hw q (by simp only [DataW.weights, ht]; exact hq))
  exact ⟨g a, by show d.K W (f (g a)) cs; rw [hfg]; exact ha, by show B (f (g a)); rw [hfg]; exact hB⟩
set_option maxRecDepth 100000 in
/-- An argument that is a struct: its cells. -/
theorem agg_of {α : Type} {d : Kd α} {t : TypeId} {fs : Array Field} {B : α → Prop} {r : Reach} {b0 : Nat} {v : Value} {H : Type} {enc : TypeId × Value → H} {W : World} {dd : DataW H} {p : List MemPlace} (ht : Tryz.prog.underlying t = some (.struct fs)) (h : Rd d t B) (hv : Value.okWide Tryz.prog W r b0 t v) (hd : DataW.Trod enc Tryz.prog W 0 (fun _ => true) true t v dd p) (hw : ∀ n ∈ dd.weights Tryz.prog t, n ≤ reachBytes) :
    ∃ a cs, v = .agg cs.toArray ∧ d.K W a cs ∧ B a := by
  obtain ⟨cs, rfl, _⟩ := Go.WideShapes.okWide_struct ht hv
  obtain ⟨fuel, hf⟩ := hd
  obtain ⟨a, hK, hB⟩ := h H enc W fuel _ _ hf hw
  refine ⟨a, cs.toList, by simp, ?_, hB⟩
  exact hK
end Go.Proofs.YtknmbalhbecdhaaGreatDoor.Args
end
section
namespace Go.Proofs.YtknmbalhbecdhaaGreatDoor.Print
open Go.RowKit Go.Proofs.YtknmbalhbecdhaaGreatDoorW.PrintWords Go.Proofs.YtknmbalhbecdhaaGreatDoorW.PrintLast
set_option linter.unusedVariables false
set_option linter.unusedSimpArgs false
def errW : Option Int → Value
 | none => .nilIface
 | some c => .iface 0 (.int .i64 c)
theorem errW_none : errW none = .nilIface := rfl
theorem errW_some (c : Int) : errW (some c) = .iface 0 (.int .i64 c) := rfl
theorem info5 : (Tryz.prog.info? 5).map (fun i => (i.zero, i.size, i.bytes)) = some (some (.int .u8 0), 1, 1) := by kernel_rfl
theorem info9 : (Tryz.prog.info? 9).map (fun i => (i.zero, i.size, i.bytes)) = some (some (.string ⟨#[]⟩), 1, 16) := by kernel_rfl
theorem info53 : (Tryz.prog.info? 53).map (fun i => (i.zero, i.size, i.bytes)) = some (some (.agg #[(.string ⟨#[]⟩), (.slice none 0 0)]), 2, 40) := by kernel_rfl
structure S53 where
 f0 : ByteArray
 f1 : (List ByteArray)
def z53 : S53 := ⟨(⟨#[]⟩ : ByteArray), ([] : List ByteArray)⟩
def k53 : Kd S53 := Kd.iso (Kd.pair Kd.string (Kd.slice 9 Kd.string)) (fun x : S53 => (x.f0, x.f1))
theorem k53_open {w : World} {x : S53} {cs : List Value} (h : k53.K w x cs) : ∃ A1 c1, cs = [.string x.f0, .slice A1 x.f1.length c1] ∧ x.f1.length ≤ c1 ∧ Kd.string.C w A1 x.f1.length x.f1 := by
 obtain ⟨_, _, rfl, rfl, ⟨A1, c1, rfl, l1, g1⟩⟩ := h
 exact ⟨A1, c1, rfl, l1, g1⟩
theorem k53_mkM (w : World) (base : Nat) (ok : Nat → Prop) (x : S53) {v1 : Value} (g1 : Kd.string.R 9 w base ok v1 x.f1) : k53.M w base ok x [.string x.f0, v1] := ⟨[.string x.f0], [v1], rfl, rfl, ⟨v1, rfl, g1⟩⟩
def rd_T53 (xs : List S53) (i : Int) : S53 := xs.getD i.toNat z53
theorem at_T53 {w : World} {A : Option Addr} {n : Nat} {xs : List S53} (h : Kd.C k53 w A n xs) (i : Int) (h0 : 0 ≤ i) (h1 : i < n) : ∃ ad A1 c1, A = some ad ∧ w.cell? (ad.add (i.toNat * 2)) = some (.string (rd_T53 xs i).f0) ∧ w.cell? ⟨(ad.add (i.toNat * 2)).block, (ad.add (i.toNat * 2)).off + 1, none⟩ = some (.slice A1 (rd_T53 xs i).f1.length c1) ∧ (rd_T53 xs i).f1.length ≤ c1 ∧ Kd.string.C w A1 (rd_T53 xs i).f1.length (rd_T53 xs i).f1 := by
 obtain ⟨ad, c, e, _, hK, hc0⟩ := Kd.C_get h z53 i h0 h1
 have hc : ∀ j u, c[j]? = some u → w.cell? (ad.add (i.toNat * 2 + j)) = some u := hc0
 obtain ⟨A1, c1, rfl, l1, g1⟩ := k53_open hK
 exact ⟨ad, A1, c1, e, hc 0 _ rfl, by rw [← add_field _ _ 1 (by omega)]; exact hc 1 _ rfl, l1, g1⟩
structure S44 where
 f0 : ByteArray
 f1 : (List ByteArray)
def z44 : S44 := ⟨(⟨#[]⟩ : ByteArray), ([] : List ByteArray)⟩
def k44 : Kd S44 := Kd.iso (Kd.pair Kd.string (Kd.slice 9 Kd.string)) (fun x : S44 => (x.f0, x.f1))
theorem k44_open {w : World} {x : S44} {cs : List Value} (h : k44.K w x cs) : ∃ A1 c1, cs = [.string x.f0, .slice A1 x.f1.length c1] ∧ x.f1.length ≤ c1 ∧ Kd.string.C w A1 x.f1.length x.f1 := by
 obtain ⟨_, _, rfl, rfl, ⟨A1, c1, rfl, l1, g1⟩⟩ := h
 exact ⟨A1, c1, rfl, l1, g1⟩
def rd_T44 (xs : List S44) (i : Int) : S44 := xs.getD i.toNat z44
theorem at_T44 {w : World} {A : Option Addr} {n : Nat} {xs : List S44} (h : Kd.C k44 w A n xs) (i : Int) (h0 : 0 ≤ i) (h1 : i < n) : ∃ ad A1 c1, A = some ad ∧ w.cell? (ad.add (i.toNat * 2)) = some (.string (rd_T44 xs i).f0) ∧ w.cell? ⟨(ad.add (i.toNat * 2)).block, (ad.add (i.toNat * 2)).off + 1, none⟩ = some (.slice A1 (rd_T44 xs i).f1.length c1) ∧ (rd_T44 xs i).f1.length ≤ c1 ∧ Kd.string.C w A1 (rd_T44 xs i).f1.length (rd_T44 xs i).f1 := by
 obtain ⟨ad, c, e, _, hK, hc0⟩ := Kd.C_get h z44 i h0 h1
 have hc : ∀ j u, c[j]? = some u → w.cell? (ad.add (i.toNat * 2 + j)) = some u := hc0
 obtain ⟨A1, c1, rfl, l1, g1⟩ := k44_open hK
 exact ⟨ad, A1, c1, e, hc 0 _ rfl, by rw [← add_field _ _ 1 (by omega)]; exact hc 1 _ rfl, l1, g1⟩
end Go.Proofs.YtknmbalhbecdhaaGreatDoor.Print
end
section
set_option linter.unusedVariables false
set_option linter.unusedSimpArgs false
namespace Go.Proofs.YtknmbalhbecdhaaGreatDoor.Args
open Go Go.RowKit Go.Lib Go.Proofs.YtknmbalhbecdhaaGreatDoorW.PrintWords Go.Proofs.YtknmbalhbecdhaaGreatDoor.Print
abbrev RParam := S44
def StrsB (l : List ByteArray) : Prop := l.length * 16 ≤ 140737488351232 ∧ ∀ z ∈ l, z.size ≤ 140737488351232
theorem rdStrs : Rd (Kd.slice 9 Kd.string) 42 StrsB := Rd.slice Tryz.underlying42 (by kernel_rfl) (by decide) 16 (by kernel_rfl) (Rd.string Tryz.underlying9)
def ParB (p : RParam) : Prop := p.f0.size ≤ 140737488351232 ∧ StrsB p.f1
theorem rdPar : Rd k44 44 ParB :=
  Rd.struct (fun x : RParam => (x.f0, x.f1)) (fun a => ⟨a.1, a.2⟩) (fun _ => rfl) Tryz.underlying44 (by kernel_rfl) (RdF.cons (Rd.string Tryz.underlying9) (RdF.one rdStrs))
def ParsB (l : List RParam) : Prop := l.length * 40 ≤ 140737488351232 ∧ ∀ p ∈ l, ParB p
abbrev RLine := ByteArray × List RParam × ByteArray
def LineB (z : RLine) : Prop := z.1.size ≤ 140737488351232 ∧ ParsB z.2.1 ∧ z.2.2.size ≤ 140737488351232
theorem rdLine : Rd (Kd.iso (Kd.pair Kd.string (Kd.pair (Kd.slice 44 k44) Kd.string)) (fun x : RLine => x)) 24 LineB :=
  Rd.struct (fun x : RLine => x) (fun a => a) (fun _ => rfl) Tryz.underlying24 (by kernel_rfl) (RdF.cons (Rd.string Tryz.underlying9) (RdF.cons (Rd.slice (t := 22) Tryz.underlying22 (by kernel_rfl) (by decide) 40 (by kernel_rfl) rdPar) (RdF.one (Rd.string Tryz.underlying9))))
/-- A line, as the walks ask for it. -/
def IsLine (W : World) (v : Value) (z : RLine) : Prop := LineB z ∧ ∃ A c, v = .agg #[.string z.1, .slice A z.2.1.length c, .string z.2.2] ∧ z.2.1.length ≤ c ∧ Kd.C k44 W A z.2.1.length z.2.1
set_option maxRecDepth 100000 in
theorem openLine {v : Value} {H : Type} {enc : TypeId × Value → H} {W : World} {r : Reach} {b0 : Nat} {d : DataW H} {p : List MemPlace} (hv : Value.okWide Tryz.prog W r b0 24 v) (hd : DataW.Trod enc Tryz.prog W 0 (fun _ => true) true 24 v d p) (hw : ∀ n ∈ d.weights Tryz.prog 24, n ≤ reachBytes) : ∃ z, IsLine W v z := by
  obtain ⟨z, cs, rfl, hK, hB⟩ := agg_of Tryz.underlying24 rdLine hv hd hw
  obtain ⟨c0, c1, rfl, rfl, c2, c3, rfl, ⟨A, c, rfl, hl, hC⟩, rfl⟩ := hK
  exact ⟨z, hB, A, c, rfl, hl, hC⟩
end Go.Proofs.YtknmbalhbecdhaaGreatDoor.Args
end
section
namespace Go.Proofs.YtknmbalhbecdhaaGreatDoor.Print
open Go.RowKit Go.Proofs.YtknmbalhbecdhaaGreatDoorW.PrintWords Go.Proofs.YtknmbalhbecdhaaGreatDoorW.PrintLast
set_option linter.unusedVariables false
set_option linter.unusedSimpArgs false
mutual
def trystref08_next.j2 : Nat → ByteArray → Int → Int → Int → Option (Int)
 | 0, _, _, _, _ => none
 | k + 1, x0, x1, x5, x6 => if (wrap64 (x1 + x6)) > (x0.size : Int) then (some 0) else (trystref08_next.l0 k x0 x1 x5 x6 1)
def trystref08_next.l0 : Nat → ByteArray → Int → Int → Int → Int → Option (Int)
 | 0, _, _, _, _, _ => none
 | k + 1, x0, x1, x5, x6, x7 => if x7 < x6 then (if 0 ≤ (wrap64 (x1 + x7)) then (if (wrap64 (x1 + x7)) < (x0.size : Int) then (if (bt x0 (wrap64 (x1 + x7))) < 128 then (some 0) else (if (bt x0 (wrap64 (x1 + x7))) > 191 then (some 0) else (trystref08_next.l0 k x0 x1 x5 x6 (wrap64 (x7 + 1))))) else (none)) else (none)) else (if 0 ≤ (wrap64 (x1 + 1)) then (if (wrap64 (x1 + 1)) < (x0.size : Int) then (if x5 = 224 then (if (bt x0 (wrap64 (x1 + 1))) < 160 then (some 0) else (if x5 = 237 then (if (bt x0 (wrap64 (x1 + 1))) > 159 then (some 0) else (if x5 = 240 then (if (bt x0 (wrap64 (x1 + 1))) < 144 then (some 0) else (if x5 = 244 then (if (bt x0 (wrap64 (x1 + 1))) > 143 then (some 0) else (some x6)) else (some x6))) else (if x5 = 244 then (if (bt x0 (wrap64 (x1 + 1))) > 143 then (some 0) else (some x6)) else (some x6)))) else (if x5 = 240 then (if (bt x0 (wrap64 (x1 + 1))) < 144 then (some 0) else (if x5 = 244 then (if (bt x0 (wrap64 (x1 + 1))) > 143 then (some 0) else (some x6)) else (some x6))) else (if x5 = 244 then (if (bt x0 (wrap64 (x1 + 1))) > 143 then (some 0) else (some x6)) else (some x6))))) else (if x5 = 237 then (if (bt x0 (wrap64 (x1 + 1))) > 159 then (some 0) else (if x5 = 240 then (if (bt x0 (wrap64 (x1 + 1))) < 144 then (some 0) else (if x5 = 244 then (if (bt x0 (wrap64 (x1 + 1))) > 143 then (some 0) else (some x6)) else (some x6))) else (if x5 = 244 then (if (bt x0 (wrap64 (x1 + 1))) > 143 then (some 0) else (some x6)) else (some x6)))) else (if x5 = 240 then (if (bt x0 (wrap64 (x1 + 1))) < 144 then (some 0) else (if x5 = 244 then (if (bt x0 (wrap64 (x1 + 1))) > 143 then (some 0) else (some x6)) else (some x6))) else (if x5 = 244 then (if (bt x0 (wrap64 (x1 + 1))) > 143 then (some 0) else (some x6)) else (some x6))))) else (none)) else (none))
def trystref08_next.j0 : Nat → ByteArray → Int → Int → Bool → Option (Int)
 | 0, _, _, _, _ => none
 | k + 1, x0, x1, x5, x15 => if x15 = true then (trystref08_next.j2 k x0 x1 x5 2) else (if x5 ≥ 224 then (trystref08_next.j1 k x0 x1 x5 (decide (x5 < 240))) else (trystref08_next.j1 k x0 x1 x5 false))
def trystref08_next.j1 : Nat → ByteArray → Int → Int → Bool → Option (Int)
 | 0, _, _, _, _ => none
 | k + 1, x0, x1, x5, x22 => if x22 = true then (trystref08_next.j2 k x0 x1 x5 3) else (if x5 ≥ 240 then (if x5 < 245 then (trystref08_next.j2 k x0 x1 x5 4) else (some 0)) else (some 0))
end
def trystref08_next.f (k : Nat) (a0 : ByteArray) (a1 : Int) : Option (Int) := if 0 ≤ a1 then (if a1 < (a0.size : Int) then (if (bt a0 a1) < 128 then (some 1) else (if (bt a0 a1) ≥ 194 then (trystref08_next.j0 k a0 a1 (bt a0 a1) (decide ((bt a0 a1) < 224))) else (trystref08_next.j0 k a0 a1 (bt a0 a1) false))) else (none)) else (none)
theorem trystref08_next.mono_l : ∀ k, (∀ y0 y1 y2 y3, LeO (trystref08_next.j2 k y0 y1 y2 y3) (trystref08_next.j2 (k + 1) y0 y1 y2 y3)) ∧ (∀ y0 y1 y2 y3 y4, LeO (trystref08_next.l0 k y0 y1 y2 y3 y4) (trystref08_next.l0 (k + 1) y0 y1 y2 y3 y4)) ∧ (∀ y0 y1 y2 y3, LeO (trystref08_next.j0 k y0 y1 y2 y3) (trystref08_next.j0 (k + 1) y0 y1 y2 y3)) ∧ (∀ y0 y1 y2 y3, LeO (trystref08_next.j1 k y0 y1 y2 y3) (trystref08_next.j1 (k + 1) y0 y1 y2 y3))
 | 0 => ⟨fun _ _ _ _ r h => by simp [trystref08_next.j2] at h, fun _ _ _ _ _ r h => by simp [trystref08_next.l0] at h, fun _ _ _ _ r h => by simp [trystref08_next.j0] at h, fun _ _ _ _ r h => by simp [trystref08_next.j1] at h⟩
 | k + 1 => by
  obtain ⟨ih0, ih1, ih2, ih3⟩ := trystref08_next.mono_l k
  refine ⟨?_, ?_, ?_, ?_⟩
  ·intro y0 y1 y2 y3
   unfold trystref08_next.j2
   repeat' first
   | (with_reducible exact ih0 _ _ _ _)
   | (with_reducible exact ih1 _ _ _ _ _)
   | (with_reducible exact ih2 _ _ _ _)
   | (with_reducible exact ih3 _ _ _ _)
   | (with_reducible exact LeO.refl _)
   | (with_reducible exact LeO.none _)
   | (with_reducible refine LeO.ite ?_ ?_)
   | (with_reducible refine LeO.bind ?_ (fun _ => ?_))
   | exact ih0 _ _ _ _
   | exact ih1 _ _ _ _ _
   | exact ih2 _ _ _ _
   | exact ih3 _ _ _ _
   | exact LeO.none _
   | refine LeO.ite ?_ ?_
   | refine LeO.bind ?_ (fun _ => ?_)
  ·intro y0 y1 y2 y3 y4
   unfold trystref08_next.l0
   repeat' first
   | (with_reducible exact ih0 _ _ _ _)
   | (with_reducible exact ih1 _ _ _ _ _)
   | (with_reducible exact ih2 _ _ _ _)
   | (with_reducible exact ih3 _ _ _ _)
   | (with_reducible exact LeO.refl _)
   | (with_reducible exact LeO.none _)
   | (with_reducible refine LeO.ite ?_ ?_)
   | (with_reducible refine LeO.bind ?_ (fun _ => ?_))
   | exact ih0 _ _ _ _
   | exact ih1 _ _ _ _ _
   | exact ih2 _ _ _ _
   | exact ih3 _ _ _ _
   | exact LeO.none _
   | refine LeO.ite ?_ ?_
   | refine LeO.bind ?_ (fun _ => ?_)
  ·intro y0 y1 y2 y3
   unfold trystref08_next.j0
   repeat' first
   | (with_reducible exact ih0 _ _ _ _)
   | (with_reducible exact ih1 _ _ _ _ _)
   | (with_reducible exact ih2 _ _ _ _)
   | (with_reducible exact ih3 _ _ _ _)
   | (with_reducible exact LeO.refl _)
   | (with_reducible exact LeO.none _)
   | (with_reducible refine LeO.ite ?_ ?_)
   | (with_reducible refine LeO.bind ?_ (fun _ => ?_))
   | exact ih0 _ _ _ _
   | exact ih1 _ _ _ _ _
   | exact ih2 _ _ _ _
   | exact ih3 _ _ _ _
   | exact LeO.none _
   | refine LeO.ite ?_ ?_
   | refine LeO.bind ?_ (fun _ => ?_)
  ·intro y0 y1 y2 y3
   unfold trystref08_next.j1
   repeat' first
   | (with_reducible exact ih0 _ _ _ _)
   | (with_reducible exact ih1 _ _ _ _ _)
   | (with_reducible exact ih2 _ _ _ _)
   | (with_reducible exact ih3 _ _ _ _)
   | (with_reducible exact LeO.refl _)
   | (with_reducible exact LeO.none _)
   | (with_reducible refine LeO.ite ?_ ?_)
   | (with_reducible refine LeO.bind ?_ (fun _ => ?_))
   | exact ih0 _ _ _ _
   | exact ih1 _ _ _ _ _
   | exact ih2 _ _ _ _
   | exact ih3 _ _ _ _
   | exact LeO.none _
   | refine LeO.ite ?_ ?_
   | refine LeO.bind ?_ (fun _ => ?_)
theorem trystref08_next.mono : ∀ a0 a1 k, LeO (trystref08_next.f k a0 a1) (trystref08_next.f (k + 1) a0 a1) := by
 intro a0 a1 k
 obtain ⟨ih0, ih1, ih2, ih3⟩ := trystref08_next.mono_l k
 unfold trystref08_next.f
 repeat' first
   | (with_reducible exact ih0 _ _ _ _)
   | (with_reducible exact ih1 _ _ _ _ _)
   | (with_reducible exact ih2 _ _ _ _)
   | (with_reducible exact ih3 _ _ _ _)
   | (with_reducible exact LeO.refl _)
   | (with_reducible exact LeO.none _)
   | (with_reducible refine LeO.ite ?_ ?_)
   | (with_reducible refine LeO.bind ?_ (fun _ => ?_))
   | exact ih0 _ _ _ _
   | exact ih1 _ _ _ _ _
   | exact ih2 _ _ _ _
   | exact ih3 _ _ _ _
   | exact LeO.none _
   | refine LeO.ite ?_ ?_
   | refine LeO.bind ?_ (fun _ => ?_)
set_option maxHeartbeats 8000000 in
set_option maxRecDepth 100000 in
theorem trystref08_next.calls (k : Nat) (a0 : ByteArray) (a1 : Int) (r : Int) (w : World) (hG : GG w) (h : trystref08_next.f k a0 a1 = some r) :
  Calls Tryz.prog 55 #[.string a0, .int .i64 a1] w fun e w' => e = .returned (.int .i64 r) ∧ Drawn0 w w' := by
 have H : (if 0 ≤ a1 then (if a1 < (a0.size : Int) then (if (bt a0 a1) < 128 then (some 1) else (if (bt a0 a1) ≥ 194 then (trystref08_next.j0 k a0 a1 (bt a0 a1) (decide ((bt a0 a1) < 224))) else (trystref08_next.j0 k a0 a1 (bt a0 a1) false))) else (none)) else (none)) = some r := h
 clear h
 by_cases c3 : 0 ≤ a1
 ·rw [if_pos c3] at H
  have c3b0 : decide (0 ≤ a1) = true := decide_eq_true c3
  clear c3
  by_cases c4 : a1 < (a0.size : Int)
  ·rw [if_pos c4] at H
   have c4b0 : decide (a1 < (a0.size : Int)) = true := decide_eq_true c4
   clear c4
   have HC6 := Aside0.mk H
   clear H
   have p5 : 0 ≤ (a1 : Int) := of_decide_eq_true (by first | (with_reducible assumption) | assumption)
   have q5 : a1 < (a0.size : Int) := of_decide_eq_true (by first | (with_reducible assumption) | assumption)
   have hx5 := bt_at a0 a1
   replace p5 := eq_true p5
   replace q5 := eq_true q5
   go_enter Tryz.func55, Tryz.ntmps55
   go_upto_block 0 with (fail)
   go_cut [6] (fun v6 wc => ∃ (kq : Nat) (x6_5 : Int), v6 = .int .i64 x6_5 ∧ Aside0 (trystref08_next.j2 kq a0 a1 (bt a0 a1) x6_5 = some r) ∧ Aside0 (kq ≤ k) ∧ Drawn0 w wc)
   case first =>
    have H := HC6.out
    clear HC6
    by_cases c7 : (bt a0 a1) < 128
    ·rw [if_pos c7] at H
     have c7b0 : decide ((bt a0 a1) < 128) = true := decide_eq_true c7
     clear c7
     (first | rw [c7b0] | (simp only [i64_w, i32_w]; rw [c7b0]) | skip)
     obtain rfl := Option.some.inj H
     go_wp2
     go_ret
     exact ⟨by first | rfl | (simp; done) | (simp [bne_nil_isEmpty, beq_nil_isEmpty]; done) | (simp [*]; done), by repeat (first | exact Drawn0.refl _ | apply Drawn0.step)⟩
    ·rw [if_neg c7] at H
     have c7b0 : decide ((bt a0 a1) < 128) = false := decide_eq_false c7
     clear c7
     (first | rw [c7b0] | (simp only [i64_w, i32_w]; rw [c7b0]) | skip)
     have HC8 := Aside0.mk H
     clear H
     go_upto_region 6 with (fail)
     go_cut [15] (fun v15 wc => ∃ (kq : Nat) (x15_7 : Bool), v15 = .bool x15_7 ∧ Aside0 (trystref08_next.j0 kq a0 a1 (bt a0 a1) x15_7 = some r) ∧ Aside0 (kq ≤ k) ∧ Drawn0 w wc)
     case first =>
      have H := HC8.out
      clear HC8
      by_cases c9 : (bt a0 a1) ≥ 194
      ·rw [if_pos c9] at H
       have c9b0 : decide (194 ≤ (bt a0 a1)) = true := decide_eq_true c9
       clear c9
       (first | rw [c9b0] | (simp only [i64_w, i32_w]; rw [c9b0]) | skip)
       have H' := Aside0.mk H
       clear H
       go_wp2
       go_meet
       case rel => exact ⟨_, (decide ((bt a0 a1) < 224)), (by first | rfl | (simp; done) | (simp [bne_nil_isEmpty, beq_nil_isEmpty]; done) | (simp [*]; done)), H', ⟨by first | omega | exact Nat.le_refl _⟩, by repeat (first | exact Drawn0.refl _ | apply Drawn0.step)⟩
      ·rw [if_neg c9] at H
       have c9b0 : decide (194 ≤ (bt a0 a1)) = false := decide_eq_false c9
       clear c9
       (first | rw [c9b0] | (simp only [i64_w, i32_w]; rw [c9b0]) | skip)
       have H' := Aside0.mk H
       clear H
       go_wp2
       go_meet
       case rel => exact ⟨_, (false), (by first | rfl | (simp; done) | (simp [bne_nil_isEmpty, beq_nil_isEmpty]; done) | (simp [*]; done)), H', ⟨by first | omega | exact Nat.le_refl _⟩, by repeat (first | exact Drawn0.refl _ | apply Drawn0.step)⟩
     case rest =>
      clear HC8
      try clear p2
      try clear c3
      try clear c3b0
      try clear c4
      try clear c4b0
      try clear c5
      try clear p5
      try clear q5
      try clear hx5
      try clear c7
      try clear c7b0
      try clear c9
      try clear c9b0
      try clear p5
      try clear q5
      obtain ⟨kq, x15_7, rfl, HA, HJ7, ⟨mc7, rfl⟩⟩ := hcut
      cases kq with
      | zero => exact absurd HA.out (by simp [trystref08_next.j0])
      | succ kj7 =>
       have H := HA.out
       clear HA
       simp only [trystref08_next.j0] at H
       by_cases c10 : x15_7 = true
       ·subst c10
        rw [if_pos rfl] at H
        have H' := Aside0.mk H
        clear H
        go_wp2
        go_meet
        case rel => exact ⟨_, (2), (by first | rfl | (simp; done) | (simp [bne_nil_isEmpty, beq_nil_isEmpty]; done) | (simp [*]; done)), H', ⟨by have := HJ7.out; first | omega | exact Nat.le_refl _⟩, by repeat (first | exact Drawn0.refl _ | apply Drawn0.step)⟩
       ·replace c10 := Bool.eq_false_iff.mpr c10
        subst c10
        rw [if_neg (show ¬ (false = true) by decide)] at H
        have HC11 := Aside0.mk H
        clear H
        go_upto_region 8 with (fail)
        go_cut [22] (fun v22 wc => ∃ (kq : Nat) (x22_10 : Bool), v22 = .bool x22_10 ∧ Aside0 (trystref08_next.j1 kq a0 a1 (bt a0 a1) x22_10 = some r) ∧ Aside0 (kq ≤ kj7) ∧ Drawn0 w wc)
        case first =>
         have H := HC11.out
         clear HC11
         by_cases c12 : (bt a0 a1) ≥ 224
         ·rw [if_pos c12] at H
          have c12b0 : decide (224 ≤ (bt a0 a1)) = true := decide_eq_true c12
          clear c12
          (first | rw [c12b0] | (simp only [i64_w, i32_w]; rw [c12b0]) | skip)
          have H' := Aside0.mk H
          clear H
          go_wp2
          go_meet
          case rel => exact ⟨_, (decide ((bt a0 a1) < 240)), (by first | rfl | (simp; done) | (simp [bne_nil_isEmpty, beq_nil_isEmpty]; done) | (simp [*]; done)), H', ⟨by have := HJ7.out; first | omega | exact Nat.le_refl _⟩, by repeat (first | exact Drawn0.refl _ | apply Drawn0.step)⟩
         ·rw [if_neg c12] at H
          have c12b0 : decide (224 ≤ (bt a0 a1)) = false := decide_eq_false c12
          clear c12
          (first | rw [c12b0] | (simp only [i64_w, i32_w]; rw [c12b0]) | skip)
          have H' := Aside0.mk H
          clear H
          go_wp2
          go_meet
          case rel => exact ⟨_, (false), (by first | rfl | (simp; done) | (simp [bne_nil_isEmpty, beq_nil_isEmpty]; done) | (simp [*]; done)), H', ⟨by have := HJ7.out; first | omega | exact Nat.le_refl _⟩, by repeat (first | exact Drawn0.refl _ | apply Drawn0.step)⟩
        case rest =>
         clear HC11
         try clear c1
         try clear p2
         try clear c3
         try clear c3b0
         try clear c4
         try clear c4b0
         try clear c5
         try clear p5
         try clear q5
         try clear hx5
         try clear c7
         try clear c7b0
         try clear c9
         try clear c9b0
         try clear c10
         try clear c12
         try clear c12b0
         try clear p2
         try clear p5
         try clear q5
         obtain ⟨kq, x22_10, rfl, HA, HJ10, ⟨mc10, rfl⟩⟩ := hcut
         cases kq with
         | zero => exact absurd HA.out (by simp [trystref08_next.j1])
         | succ kj10 =>
          have H := HA.out
          clear HA
          simp only [trystref08_next.j1] at H
          by_cases c13 : x22_10 = true
          ·subst c13
           rw [if_pos rfl] at H
           have H' := Aside0.mk H
           clear H
           go_wp2
           go_meet
           case rel => exact ⟨_, (3), (by first | rfl | (simp; done) | (simp [bne_nil_isEmpty, beq_nil_isEmpty]; done) | (simp [*]; done)), H', ⟨by have := HJ7.out; have := HJ10.out; first | omega | exact Nat.le_refl _⟩, by repeat (first | exact Drawn0.refl _ | apply Drawn0.step)⟩
          ·replace c13 := Bool.eq_false_iff.mpr c13
           subst c13
           rw [if_neg (show ¬ (false = true) by decide)] at H
           by_cases c14 : (bt a0 a1) ≥ 240
           ·rw [if_pos c14] at H
            have c14b0 : decide (240 ≤ (bt a0 a1)) = true := decide_eq_true c14
            clear c14
            by_cases c15 : (bt a0 a1) < 245
            ·rw [if_pos c15] at H
             have c15b0 : decide ((bt a0 a1) < 245) = true := decide_eq_true c15
             clear c15
             have H' := Aside0.mk H
             clear H
             go_wp2
             go_meet
             case rel => exact ⟨_, (4), (by first | rfl | (simp; done) | (simp [bne_nil_isEmpty, beq_nil_isEmpty]; done) | (simp [*]; done)), H', ⟨by have := HJ7.out; have := HJ10.out; first | omega | exact Nat.le_refl _⟩, by repeat (first | exact Drawn0.refl _ | apply Drawn0.step)⟩
            ·rw [if_neg c15] at H
             have c15b0 : decide ((bt a0 a1) < 245) = false := decide_eq_false c15
             clear c15
             obtain rfl := Option.some.inj H
             go_wp2
             go_ret
             exact ⟨by first | rfl | (simp; done) | (simp [bne_nil_isEmpty, beq_nil_isEmpty]; done) | (simp [*]; done), by repeat (first | exact Drawn0.refl _ | apply Drawn0.step)⟩
           ·rw [if_neg c14] at H
            have c14b0 : decide (240 ≤ (bt a0 a1)) = false := decide_eq_false c14
            clear c14
            obtain rfl := Option.some.inj H
            go_wp2
            go_ret
            exact ⟨by first | rfl | (simp; done) | (simp [bne_nil_isEmpty, beq_nil_isEmpty]; done) | (simp [*]; done), by repeat (first | exact Drawn0.refl _ | apply Drawn0.step)⟩
   case rest =>
    clear HC6
    try clear c1
    try clear p2
    try clear c3
    try clear c3b0
    try clear c4
    try clear c4b0
    try clear c5
    try clear p5
    try clear q5
    try clear hx5
    try clear c7
    try clear c7b0
    try clear c9
    try clear c9b0
    try clear c10
    try clear c12
    try clear c12b0
    try clear c13
    try clear c14
    try clear c14b0
    try clear c15
    try clear c15b0
    try clear p2
    try clear p5
    try clear q5
    obtain ⟨kq, x6_5, rfl, HA, HJ5, ⟨mc5, rfl⟩⟩ := hcut
    cases kq with
    | zero => exact absurd HA.out (by simp [trystref08_next.j2])
    | succ kj5 =>
     have H := HA.out
     clear HA
     simp only [trystref08_next.j2] at H
     by_cases c16 : (wrap64 (a1 + x6_5)) > (a0.size : Int)
     ·rw [if_pos c16] at H
      have c16b0 : decide ((a0.size : Int) < (wrap64 (a1 + x6_5))) = true := decide_eq_true c16
      clear c16
      obtain rfl := Option.some.inj H
      go_wp2
      go_ret
      exact ⟨by first | rfl | (simp; done) | (simp [bne_nil_isEmpty, beq_nil_isEmpty]; done) | (simp [*]; done), by repeat (first | exact Drawn0.refl _ | apply Drawn0.step)⟩
     ·rw [if_neg c16] at H
      have c16b0 : decide ((a0.size : Int) < (wrap64 (a1 + x6_5))) = false := decide_eq_false c16
      clear c16
      have H' := Aside0.mk H
      clear H
      go_wp2
      go_loopg [7] kj5 (fun kq v7 w' => ∃ (x7_2 : Int), v7 = .int .i64 x7_2 ∧ Aside0 (trystref08_next.l0 kq a0 a1 (bt a0 a1) x6_5 x7_2 = some r) ∧ Aside0 (kq ≤ kj5) ∧ Drawn0 w w')
      case atStart => exact ⟨(1), (by first | rfl | (simp; done) | (simp [bne_nil_isEmpty, beq_nil_isEmpty]; done) | (simp [*]; done)), H', ⟨Nat.le_refl _⟩, by repeat (first | exact Drawn0.refl _ | apply Drawn0.step)⟩
      case round =>
       clear H'
       try clear c1
       try clear p2
       try clear c3
       try clear c3b0
       try clear c4
       try clear c4b0
       try clear c5
       try clear p5
       try clear q5
       try clear hx5
       try clear p6
       try clear c7
       try clear c7b0
       try clear c9
       try clear c9b0
       try clear c10
       try clear c12
       try clear c12b0
       try clear c13
       try clear c14
       try clear c14b0
       try clear c15
       try clear c15b0
       try clear c16
       try clear c16b0
       try clear p2
       try clear p5
       try clear q5
       obtain ⟨x7_2, rfl, HA, HK2, ⟨m2, rfl⟩⟩ := hrel
       cases gk with
       | zero => exact absurd HA.out (by simp [trystref08_next.l0])
       | succ k2 =>
        have H := HA.out
        clear HA
        simp only [trystref08_next.l0] at H
        by_cases c17 : x7_2 < x6_5
        ·rw [if_pos c17] at H
         have c17b0 : decide (x7_2 < x6_5) = true := decide_eq_true c17
         clear c17
         obtain ⟨ji18, hji18⟩ : ∃ j_ : Int, (wrap64 (a1 + x7_2)) = j_ := ⟨_, rfl⟩
         replace H : (if 0 ≤ (ji18) then (if (ji18) < (a0.size : Int) then (if (bt a0 (ji18)) < 128 then (some 0) else (if (bt a0 (ji18)) > 191 then (some 0) else (trystref08_next.l0 k2 a0 a1 (bt a0 a1) x6_5 (wrap64 (x7_2 + 1))))) else (none)) else (none)) = some r := by first | (rw [hji18] at H; exact H) | (simp only [hji18] at H ⊢; exact H)
         have hji18w : (IntKind.i64.wrap (a1 + x7_2)) = ji18 := (i64_w _).trans hji18
         by_cases c19 : 0 ≤ (ji18)
         ·rw [if_pos c19] at H
          have c19b0 : decide (0 ≤ (ji18)) = true := decide_eq_true c19
          clear c19
          by_cases c20 : (ji18) < (a0.size : Int)
          ·rw [if_pos c20] at H
           have c20b0 : decide ((ji18) < (a0.size : Int)) = true := decide_eq_true c20
           clear c20
           by_cases c22 : (bt a0 (ji18)) < 128
           ·rw [if_pos c22] at H
            have c22b0 : decide ((bt a0 (ji18)) < 128) = true := decide_eq_true c22
            clear c22
            obtain rfl := Option.some.inj H
            have p21 : 0 ≤ ((ji18) : Int) := of_decide_eq_true (by first | (with_reducible assumption) | assumption)
            have q21 : (ji18) < (a0.size : Int) := of_decide_eq_true (by first | (with_reducible assumption) | assumption)
            have hx21 := bt_at a0 (ji18)
            replace p21 := eq_true p21
            replace q21 := eq_true q21
            go_wp2
            go_ret
            exact ⟨by first | rfl | (simp; done) | (simp only [← hji18] <;> (first | rfl | simp)) | (simp [*]; done), by repeat (first | exact Drawn0.refl _ | apply Drawn0.step)⟩
           ·rw [if_neg c22] at H
            have c22b0 : decide ((bt a0 (ji18)) < 128) = false := decide_eq_false c22
            clear c22
            by_cases c24 : (bt a0 (ji18)) > 191
            ·rw [if_pos c24] at H
             have c24b0 : decide (191 < (bt a0 (ji18))) = true := decide_eq_true c24
             clear c24
             obtain rfl := Option.some.inj H
             have p21 : 0 ≤ ((ji18) : Int) := of_decide_eq_true (by first | (with_reducible assumption) | assumption)
             have q21 : (ji18) < (a0.size : Int) := of_decide_eq_true (by first | (with_reducible assumption) | assumption)
             have hx21 := bt_at a0 (ji18)
             replace p21 := eq_true p21
             replace q21 := eq_true q21
             have p23 : 0 ≤ ((ji18) : Int) := of_decide_eq_true (by first | (with_reducible assumption) | assumption)
             have q23 : (ji18) < (a0.size : Int) := of_decide_eq_true (by first | (with_reducible assumption) | assumption)
             have hx23 := bt_at a0 (ji18)
             replace p23 := eq_true p23
             replace q23 := eq_true q23
             go_wp2
             go_ret
             exact ⟨by first | rfl | (simp; done) | (simp only [← hji18] <;> (first | rfl | simp)) | (simp [*]; done), by repeat (first | exact Drawn0.refl _ | apply Drawn0.step)⟩
            ·rw [if_neg c24] at H
             have c24b0 : decide (191 < (bt a0 (ji18))) = false := decide_eq_false c24
             clear c24
             have H' := Aside0.mk H
             clear H
             have p21 : 0 ≤ ((ji18) : Int) := of_decide_eq_true (by first | (with_reducible assumption) | assumption)
             have q21 : (ji18) < (a0.size : Int) := of_decide_eq_true (by first | (with_reducible assumption) | assumption)
             have hx21 := bt_at a0 (ji18)
             replace p21 := eq_true p21
             replace q21 := eq_true q21
             have p23 : 0 ≤ ((ji18) : Int) := of_decide_eq_true (by first | (with_reducible assumption) | assumption)
             have q23 : (ji18) < (a0.size : Int) := of_decide_eq_true (by first | (with_reducible assumption) | assumption)
             have hx23 := bt_at a0 (ji18)
             replace p23 := eq_true p23
             replace q23 := eq_true q23
             go_wp2
             go_roundg k2
             case measure => have := HJ5.out; have := HK2.out; omega
             case rel => exact ⟨(wrap64 (x7_2 + 1)), (by first | rfl | (simp; done) | (simp [bne_nil_isEmpty, beq_nil_isEmpty]; done) | (simp [*]; done)), H', ⟨by have := HJ5.out; have := HK2.out; omega⟩, by repeat (first | exact Drawn0.refl _ | apply Drawn0.step)⟩
          ·rw [if_neg c20] at H
           exact absurd H (by simp)
         ·rw [if_neg c19] at H
          exact absurd H (by simp)
        ·rw [if_neg c17] at H
         have c17b0 : decide (x7_2 < x6_5) = false := decide_eq_false c17
         clear c17
         obtain ⟨ji25, hji25⟩ : ∃ j_ : Int, (wrap64 (a1 + 1)) = j_ := ⟨_, rfl⟩
         replace H : (if 0 ≤ (ji25) then (if (ji25) < (a0.size : Int) then (if (bt a0 a1) = 224 then (if (bt a0 (ji25)) < 160 then (some 0) else (if (bt a0 a1) = 237 then (if (bt a0 (ji25)) > 159 then (some 0) else (if (bt a0 a1) = 240 then (if (bt a0 (ji25)) < 144 then (some 0) else (if (bt a0 a1) = 244 then (if (bt a0 (ji25)) > 143 then (some 0) else (some x6_5)) else (some x6_5))) else (if (bt a0 a1) = 244 then (if (bt a0 (ji25)) > 143 then (some 0) else (some x6_5)) else (some x6_5)))) else (if (bt a0 a1) = 240 then (if (bt a0 (ji25)) < 144 then (some 0) else (if (bt a0 a1) = 244 then (if (bt a0 (ji25)) > 143 then (some 0) else (some x6_5)) else (some x6_5))) else (if (bt a0 a1) = 244 then (if (bt a0 (ji25)) > 143 then (some 0) else (some x6_5)) else (some x6_5))))) else (if (bt a0 a1) = 237 then (if (bt a0 (ji25)) > 159 then (some 0) else (if (bt a0 a1) = 240 then (if (bt a0 (ji25)) < 144 then (some 0) else (if (bt a0 a1) = 244 then (if (bt a0 (ji25)) > 143 then (some 0) else (some x6_5)) else (some x6_5))) else (if (bt a0 a1) = 244 then (if (bt a0 (ji25)) > 143 then (some 0) else (some x6_5)) else (some x6_5)))) else (if (bt a0 a1) = 240 then (if (bt a0 (ji25)) < 144 then (some 0) else (if (bt a0 a1) = 244 then (if (bt a0 (ji25)) > 143 then (some 0) else (some x6_5)) else (some x6_5))) else (if (bt a0 a1) = 244 then (if (bt a0 (ji25)) > 143 then (some 0) else (some x6_5)) else (some x6_5))))) else (none)) else (none)) = some r := by first | (rw [hji25] at H; exact H) | (simp only [hji25] at H ⊢; exact H)
         have hji25w : (IntKind.i64.wrap (a1 + 1)) = ji25 := (i64_w _).trans hji25
         by_cases c26 : 0 ≤ (ji25)
         ·rw [if_pos c26] at H
          have c26b0 : decide (0 ≤ (ji25)) = true := decide_eq_true c26
          clear c26
          by_cases c27 : (ji25) < (a0.size : Int)
          ·rw [if_pos c27] at H
           have c27b0 : decide ((ji25) < (a0.size : Int)) = true := decide_eq_true c27
           clear c27
           by_cases c29 : (bt a0 a1) = 224
           ·rw [if_pos c29] at H
            have c29b0 : ((bt a0 a1) == 224) = true := beq_iff_eq.mpr c29
            have c29b1 : ((bt a0 a1) != 224) = false := bne_eq_false_iff_eq.mpr c29
            clear c29
            by_cases c30 : (bt a0 (ji25)) < 160
            ·rw [if_pos c30] at H
             have c30b0 : decide ((bt a0 (ji25)) < 160) = true := decide_eq_true c30
             clear c30
             obtain rfl := Option.some.inj H
             have p28 : 0 ≤ ((ji25) : Int) := of_decide_eq_true (by first | (with_reducible assumption) | assumption)
             have q28 : (ji25) < (a0.size : Int) := of_decide_eq_true (by first | (with_reducible assumption) | assumption)
             have hx28 := bt_at a0 (ji25)
             replace p28 := eq_true p28
             replace q28 := eq_true q28
             go_wp2
             go_ret
             exact ⟨by first | rfl | (simp; done) | (simp only [← hji25] <;> (first | rfl | simp)) | (simp [*]; done), by repeat (first | exact Drawn0.refl _ | apply Drawn0.step)⟩
            ·rw [if_neg c30] at H
             have c30b0 : decide ((bt a0 (ji25)) < 160) = false := decide_eq_false c30
             clear c30
             by_cases c31 : (bt a0 a1) = 237
             ·rw [if_pos c31] at H
              have c31b0 : ((bt a0 a1) == 237) = true := beq_iff_eq.mpr c31
              have c31b1 : ((bt a0 a1) != 237) = false := bne_eq_false_iff_eq.mpr c31
              clear c31
              by_cases c32 : (bt a0 (ji25)) > 159
              ·rw [if_pos c32] at H
               have c32b0 : decide (159 < (bt a0 (ji25))) = true := decide_eq_true c32
               clear c32
               obtain rfl := Option.some.inj H
               have p28 : 0 ≤ ((ji25) : Int) := of_decide_eq_true (by first | (with_reducible assumption) | assumption)
               have q28 : (ji25) < (a0.size : Int) := of_decide_eq_true (by first | (with_reducible assumption) | assumption)
               have hx28 := bt_at a0 (ji25)
               replace p28 := eq_true p28
               replace q28 := eq_true q28
               go_wp2
               go_ret
               exact ⟨by first | rfl | (simp; done) | (simp only [← hji25] <;> (first | rfl | simp)) | (simp [*]; done), by repeat (first | exact Drawn0.refl _ | apply Drawn0.step)⟩
              ·rw [if_neg c32] at H
               have c32b0 : decide (159 < (bt a0 (ji25))) = false := decide_eq_false c32
               clear c32
               by_cases c33 : (bt a0 a1) = 240
               ·rw [if_pos c33] at H
                have c33b0 : ((bt a0 a1) == 240) = true := beq_iff_eq.mpr c33
                have c33b1 : ((bt a0 a1) != 240) = false := bne_eq_false_iff_eq.mpr c33
                clear c33
                by_cases c34 : (bt a0 (ji25)) < 144
                ·rw [if_pos c34] at H
                 have c34b0 : decide ((bt a0 (ji25)) < 144) = true := decide_eq_true c34
                 clear c34
                 obtain rfl := Option.some.inj H
                 have p28 : 0 ≤ ((ji25) : Int) := of_decide_eq_true (by first | (with_reducible assumption) | assumption)
                 have q28 : (ji25) < (a0.size : Int) := of_decide_eq_true (by first | (with_reducible assumption) | assumption)
                 have hx28 := bt_at a0 (ji25)
                 replace p28 := eq_true p28
                 replace q28 := eq_true q28
                 go_wp2
                 go_ret
                 exact ⟨by first | rfl | (simp; done) | (simp only [← hji25] <;> (first | rfl | simp)) | (simp [*]; done), by repeat (first | exact Drawn0.refl _ | apply Drawn0.step)⟩
                ·rw [if_neg c34] at H
                 have c34b0 : decide ((bt a0 (ji25)) < 144) = false := decide_eq_false c34
                 clear c34
                 by_cases c35 : (bt a0 a1) = 244
                 ·rw [if_pos c35] at H
                  have c35b0 : ((bt a0 a1) == 244) = true := beq_iff_eq.mpr c35
                  have c35b1 : ((bt a0 a1) != 244) = false := bne_eq_false_iff_eq.mpr c35
                  clear c35
                  by_cases c36 : (bt a0 (ji25)) > 143
                  ·rw [if_pos c36] at H
                   have c36b0 : decide (143 < (bt a0 (ji25))) = true := decide_eq_true c36
                   clear c36
                   obtain rfl := Option.some.inj H
                   have p28 : 0 ≤ ((ji25) : Int) := of_decide_eq_true (by first | (with_reducible assumption) | assumption)
                   have q28 : (ji25) < (a0.size : Int) := of_decide_eq_true (by first | (with_reducible assumption) | assumption)
                   have hx28 := bt_at a0 (ji25)
                   replace p28 := eq_true p28
                   replace q28 := eq_true q28
                   go_wp2
                   go_ret
                   exact ⟨by first | rfl | (simp; done) | (simp only [← hji25] <;> (first | rfl | simp)) | (simp [*]; done), by repeat (first | exact Drawn0.refl _ | apply Drawn0.step)⟩
                  ·rw [if_neg c36] at H
                   have c36b0 : decide (143 < (bt a0 (ji25))) = false := decide_eq_false c36
                   clear c36
                   obtain rfl := Option.some.inj H
                   have p28 : 0 ≤ ((ji25) : Int) := of_decide_eq_true (by first | (with_reducible assumption) | assumption)
                   have q28 : (ji25) < (a0.size : Int) := of_decide_eq_true (by first | (with_reducible assumption) | assumption)
                   have hx28 := bt_at a0 (ji25)
                   replace p28 := eq_true p28
                   replace q28 := eq_true q28
                   go_wp2
                   go_ret
                   exact ⟨by first | rfl | (simp; done) | (simp only [← hji25] <;> (first | rfl | simp)) | (simp [*]; done), by repeat (first | exact Drawn0.refl _ | apply Drawn0.step)⟩
                 ·rw [if_neg c35] at H
                  have c35b0 : ((bt a0 a1) == 244) = false := beq_eq_false_iff_ne.mpr c35
                  have c35b1 : ((bt a0 a1) != 244) = true := bne_iff_ne.mpr c35
                  obtain rfl := Option.some.inj H
                  have p28 : 0 ≤ ((ji25) : Int) := of_decide_eq_true (by first | (with_reducible assumption) | assumption)
                  have q28 : (ji25) < (a0.size : Int) := of_decide_eq_true (by first | (with_reducible assumption) | assumption)
                  have hx28 := bt_at a0 (ji25)
                  replace p28 := eq_true p28
                  replace q28 := eq_true q28
                  go_wp2
                  go_ret
                  exact ⟨by first | rfl | (simp; done) | (simp only [← hji25] <;> (first | rfl | simp)) | (simp [*]; done), by repeat (first | exact Drawn0.refl _ | apply Drawn0.step)⟩
               ·rw [if_neg c33] at H
                have c33b0 : ((bt a0 a1) == 240) = false := beq_eq_false_iff_ne.mpr c33
                have c33b1 : ((bt a0 a1) != 240) = true := bne_iff_ne.mpr c33
                by_cases c37 : (bt a0 a1) = 244
                ·rw [if_pos c37] at H
                 have c37b0 : ((bt a0 a1) == 244) = true := beq_iff_eq.mpr c37
                 have c37b1 : ((bt a0 a1) != 244) = false := bne_eq_false_iff_eq.mpr c37
                 clear c37
                 by_cases c38 : (bt a0 (ji25)) > 143
                 ·rw [if_pos c38] at H
                  have c38b0 : decide (143 < (bt a0 (ji25))) = true := decide_eq_true c38
                  clear c38
                  obtain rfl := Option.some.inj H
                  have p28 : 0 ≤ ((ji25) : Int) := of_decide_eq_true (by first | (with_reducible assumption) | assumption)
                  have q28 : (ji25) < (a0.size : Int) := of_decide_eq_true (by first | (with_reducible assumption) | assumption)
                  have hx28 := bt_at a0 (ji25)
                  replace p28 := eq_true p28
                  replace q28 := eq_true q28
                  go_wp2
                  go_ret
                  exact ⟨by first | rfl | (simp; done) | (simp only [← hji25] <;> (first | rfl | simp)) | (simp [*]; done), by repeat (first | exact Drawn0.refl _ | apply Drawn0.step)⟩
                 ·rw [if_neg c38] at H
                  have c38b0 : decide (143 < (bt a0 (ji25))) = false := decide_eq_false c38
                  clear c38
                  obtain rfl := Option.some.inj H
                  have p28 : 0 ≤ ((ji25) : Int) := of_decide_eq_true (by first | (with_reducible assumption) | assumption)
                  have q28 : (ji25) < (a0.size : Int) := of_decide_eq_true (by first | (with_reducible assumption) | assumption)
                  have hx28 := bt_at a0 (ji25)
                  replace p28 := eq_true p28
                  replace q28 := eq_true q28
                  go_wp2
                  go_ret
                  exact ⟨by first | rfl | (simp; done) | (simp only [← hji25] <;> (first | rfl | simp)) | (simp [*]; done), by repeat (first | exact Drawn0.refl _ | apply Drawn0.step)⟩
                ·rw [if_neg c37] at H
                 have c37b0 : ((bt a0 a1) == 244) = false := beq_eq_false_iff_ne.mpr c37
                 have c37b1 : ((bt a0 a1) != 244) = true := bne_iff_ne.mpr c37
                 obtain rfl := Option.some.inj H
                 have p28 : 0 ≤ ((ji25) : Int) := of_decide_eq_true (by first | (with_reducible assumption) | assumption)
                 have q28 : (ji25) < (a0.size : Int) := of_decide_eq_true (by first | (with_reducible assumption) | assumption)
                 have hx28 := bt_at a0 (ji25)
                 replace p28 := eq_true p28
                 replace q28 := eq_true q28
                 go_wp2
                 go_ret
                 exact ⟨by first | rfl | (simp; done) | (simp only [← hji25] <;> (first | rfl | simp)) | (simp [*]; done), by repeat (first | exact Drawn0.refl _ | apply Drawn0.step)⟩
             ·rw [if_neg c31] at H
              have c31b0 : ((bt a0 a1) == 237) = false := beq_eq_false_iff_ne.mpr c31
              have c31b1 : ((bt a0 a1) != 237) = true := bne_iff_ne.mpr c31
              by_cases c39 : (bt a0 a1) = 240
              ·rw [if_pos c39] at H
               have c39b0 : ((bt a0 a1) == 240) = true := beq_iff_eq.mpr c39
               have c39b1 : ((bt a0 a1) != 240) = false := bne_eq_false_iff_eq.mpr c39
               clear c39
               by_cases c40 : (bt a0 (ji25)) < 144
               ·rw [if_pos c40] at H
                have c40b0 : decide ((bt a0 (ji25)) < 144) = true := decide_eq_true c40
                clear c40
                obtain rfl := Option.some.inj H
                have p28 : 0 ≤ ((ji25) : Int) := of_decide_eq_true (by first | (with_reducible assumption) | assumption)
                have q28 : (ji25) < (a0.size : Int) := of_decide_eq_true (by first | (with_reducible assumption) | assumption)
                have hx28 := bt_at a0 (ji25)
                replace p28 := eq_true p28
                replace q28 := eq_true q28
                go_wp2
                go_ret
                exact ⟨by first | rfl | (simp; done) | (simp only [← hji25] <;> (first | rfl | simp)) | (simp [*]; done), by repeat (first | exact Drawn0.refl _ | apply Drawn0.step)⟩
               ·rw [if_neg c40] at H
                have c40b0 : decide ((bt a0 (ji25)) < 144) = false := decide_eq_false c40
                clear c40
                by_cases c41 : (bt a0 a1) = 244
                ·rw [if_pos c41] at H
                 have c41b0 : ((bt a0 a1) == 244) = true := beq_iff_eq.mpr c41
                 have c41b1 : ((bt a0 a1) != 244) = false := bne_eq_false_iff_eq.mpr c41
                 clear c41
                 by_cases c42 : (bt a0 (ji25)) > 143
                 ·rw [if_pos c42] at H
                  have c42b0 : decide (143 < (bt a0 (ji25))) = true := decide_eq_true c42
                  clear c42
                  obtain rfl := Option.some.inj H
                  have p28 : 0 ≤ ((ji25) : Int) := of_decide_eq_true (by first | (with_reducible assumption) | assumption)
                  have q28 : (ji25) < (a0.size : Int) := of_decide_eq_true (by first | (with_reducible assumption) | assumption)
                  have hx28 := bt_at a0 (ji25)
                  replace p28 := eq_true p28
                  replace q28 := eq_true q28
                  go_wp2
                  go_ret
                  exact ⟨by first | rfl | (simp; done) | (simp only [← hji25] <;> (first | rfl | simp)) | (simp [*]; done), by repeat (first | exact Drawn0.refl _ | apply Drawn0.step)⟩
                 ·rw [if_neg c42] at H
                  have c42b0 : decide (143 < (bt a0 (ji25))) = false := decide_eq_false c42
                  clear c42
                  obtain rfl := Option.some.inj H
                  have p28 : 0 ≤ ((ji25) : Int) := of_decide_eq_true (by first | (with_reducible assumption) | assumption)
                  have q28 : (ji25) < (a0.size : Int) := of_decide_eq_true (by first | (with_reducible assumption) | assumption)
                  have hx28 := bt_at a0 (ji25)
                  replace p28 := eq_true p28
                  replace q28 := eq_true q28
                  go_wp2
                  go_ret
                  exact ⟨by first | rfl | (simp; done) | (simp only [← hji25] <;> (first | rfl | simp)) | (simp [*]; done), by repeat (first | exact Drawn0.refl _ | apply Drawn0.step)⟩
                ·rw [if_neg c41] at H
                 have c41b0 : ((bt a0 a1) == 244) = false := beq_eq_false_iff_ne.mpr c41
                 have c41b1 : ((bt a0 a1) != 244) = true := bne_iff_ne.mpr c41
                 obtain rfl := Option.some.inj H
                 have p28 : 0 ≤ ((ji25) : Int) := of_decide_eq_true (by first | (with_reducible assumption) | assumption)
                 have q28 : (ji25) < (a0.size : Int) := of_decide_eq_true (by first | (with_reducible assumption) | assumption)
                 have hx28 := bt_at a0 (ji25)
                 replace p28 := eq_true p28
                 replace q28 := eq_true q28
                 go_wp2
                 go_ret
                 exact ⟨by first | rfl | (simp; done) | (simp only [← hji25] <;> (first | rfl | simp)) | (simp [*]; done), by repeat (first | exact Drawn0.refl _ | apply Drawn0.step)⟩
              ·rw [if_neg c39] at H
               have c39b0 : ((bt a0 a1) == 240) = false := beq_eq_false_iff_ne.mpr c39
               have c39b1 : ((bt a0 a1) != 240) = true := bne_iff_ne.mpr c39
               by_cases c43 : (bt a0 a1) = 244
               ·rw [if_pos c43] at H
                have c43b0 : ((bt a0 a1) == 244) = true := beq_iff_eq.mpr c43
                have c43b1 : ((bt a0 a1) != 244) = false := bne_eq_false_iff_eq.mpr c43
                clear c43
                by_cases c44 : (bt a0 (ji25)) > 143
                ·rw [if_pos c44] at H
                 have c44b0 : decide (143 < (bt a0 (ji25))) = true := decide_eq_true c44
                 clear c44
                 obtain rfl := Option.some.inj H
                 have p28 : 0 ≤ ((ji25) : Int) := of_decide_eq_true (by first | (with_reducible assumption) | assumption)
                 have q28 : (ji25) < (a0.size : Int) := of_decide_eq_true (by first | (with_reducible assumption) | assumption)
                 have hx28 := bt_at a0 (ji25)
                 replace p28 := eq_true p28
                 replace q28 := eq_true q28
                 go_wp2
                 go_ret
                 exact ⟨by first | rfl | (simp; done) | (simp only [← hji25] <;> (first | rfl | simp)) | (simp [*]; done), by repeat (first | exact Drawn0.refl _ | apply Drawn0.step)⟩
                ·rw [if_neg c44] at H
                 have c44b0 : decide (143 < (bt a0 (ji25))) = false := decide_eq_false c44
                 clear c44
                 obtain rfl := Option.some.inj H
                 have p28 : 0 ≤ ((ji25) : Int) := of_decide_eq_true (by first | (with_reducible assumption) | assumption)
                 have q28 : (ji25) < (a0.size : Int) := of_decide_eq_true (by first | (with_reducible assumption) | assumption)
                 have hx28 := bt_at a0 (ji25)
                 replace p28 := eq_true p28
                 replace q28 := eq_true q28
                 go_wp2
                 go_ret
                 exact ⟨by first | rfl | (simp; done) | (simp only [← hji25] <;> (first | rfl | simp)) | (simp [*]; done), by repeat (first | exact Drawn0.refl _ | apply Drawn0.step)⟩
               ·rw [if_neg c43] at H
                have c43b0 : ((bt a0 a1) == 244) = false := beq_eq_false_iff_ne.mpr c43
                have c43b1 : ((bt a0 a1) != 244) = true := bne_iff_ne.mpr c43
                obtain rfl := Option.some.inj H
                have p28 : 0 ≤ ((ji25) : Int) := of_decide_eq_true (by first | (with_reducible assumption) | assumption)
                have q28 : (ji25) < (a0.size : Int) := of_decide_eq_true (by first | (with_reducible assumption) | assumption)
                have hx28 := bt_at a0 (ji25)
                replace p28 := eq_true p28
                replace q28 := eq_true q28
                go_wp2
                go_ret
                exact ⟨by first | rfl | (simp; done) | (simp only [← hji25] <;> (first | rfl | simp)) | (simp [*]; done), by repeat (first | exact Drawn0.refl _ | apply Drawn0.step)⟩
           ·rw [if_neg c29] at H
            have c29b0 : ((bt a0 a1) == 224) = false := beq_eq_false_iff_ne.mpr c29
            have c29b1 : ((bt a0 a1) != 224) = true := bne_iff_ne.mpr c29
            by_cases c45 : (bt a0 a1) = 237
            ·rw [if_pos c45] at H
             have c45b0 : ((bt a0 a1) == 237) = true := beq_iff_eq.mpr c45
             have c45b1 : ((bt a0 a1) != 237) = false := bne_eq_false_iff_eq.mpr c45
             clear c45
             by_cases c46 : (bt a0 (ji25)) > 159
             ·rw [if_pos c46] at H
              have c46b0 : decide (159 < (bt a0 (ji25))) = true := decide_eq_true c46
              clear c46
              obtain rfl := Option.some.inj H
              have p28 : 0 ≤ ((ji25) : Int) := of_decide_eq_true (by first | (with_reducible assumption) | assumption)
              have q28 : (ji25) < (a0.size : Int) := of_decide_eq_true (by first | (with_reducible assumption) | assumption)
              have hx28 := bt_at a0 (ji25)
              replace p28 := eq_true p28
              replace q28 := eq_true q28
              go_wp2
              go_ret
              exact ⟨by first | rfl | (simp; done) | (simp only [← hji25] <;> (first | rfl | simp)) | (simp [*]; done), by repeat (first | exact Drawn0.refl _ | apply Drawn0.step)⟩
             ·rw [if_neg c46] at H
              have c46b0 : decide (159 < (bt a0 (ji25))) = false := decide_eq_false c46
              clear c46
              by_cases c47 : (bt a0 a1) = 240
              ·rw [if_pos c47] at H
               have c47b0 : ((bt a0 a1) == 240) = true := beq_iff_eq.mpr c47
               have c47b1 : ((bt a0 a1) != 240) = false := bne_eq_false_iff_eq.mpr c47
               clear c47
               by_cases c48 : (bt a0 (ji25)) < 144
               ·rw [if_pos c48] at H
                have c48b0 : decide ((bt a0 (ji25)) < 144) = true := decide_eq_true c48
                clear c48
                obtain rfl := Option.some.inj H
                have p28 : 0 ≤ ((ji25) : Int) := of_decide_eq_true (by first | (with_reducible assumption) | assumption)
                have q28 : (ji25) < (a0.size : Int) := of_decide_eq_true (by first | (with_reducible assumption) | assumption)
                have hx28 := bt_at a0 (ji25)
                replace p28 := eq_true p28
                replace q28 := eq_true q28
                go_wp2
                go_ret
                exact ⟨by first | rfl | (simp; done) | (simp only [← hji25] <;> (first | rfl | simp)) | (simp [*]; done), by repeat (first | exact Drawn0.refl _ | apply Drawn0.step)⟩
               ·rw [if_neg c48] at H
                have c48b0 : decide ((bt a0 (ji25)) < 144) = false := decide_eq_false c48
                clear c48
                by_cases c49 : (bt a0 a1) = 244
                ·rw [if_pos c49] at H
                 have c49b0 : ((bt a0 a1) == 244) = true := beq_iff_eq.mpr c49
                 have c49b1 : ((bt a0 a1) != 244) = false := bne_eq_false_iff_eq.mpr c49
                 clear c49
                 by_cases c50 : (bt a0 (ji25)) > 143
                 ·rw [if_pos c50] at H
                  have c50b0 : decide (143 < (bt a0 (ji25))) = true := decide_eq_true c50
                  clear c50
                  obtain rfl := Option.some.inj H
                  have p28 : 0 ≤ ((ji25) : Int) := of_decide_eq_true (by first | (with_reducible assumption) | assumption)
                  have q28 : (ji25) < (a0.size : Int) := of_decide_eq_true (by first | (with_reducible assumption) | assumption)
                  have hx28 := bt_at a0 (ji25)
                  replace p28 := eq_true p28
                  replace q28 := eq_true q28
                  go_wp2
                  go_ret
                  exact ⟨by first | rfl | (simp; done) | (simp only [← hji25] <;> (first | rfl | simp)) | (simp [*]; done), by repeat (first | exact Drawn0.refl _ | apply Drawn0.step)⟩
                 ·rw [if_neg c50] at H
                  have c50b0 : decide (143 < (bt a0 (ji25))) = false := decide_eq_false c50
                  clear c50
                  obtain rfl := Option.some.inj H
                  have p28 : 0 ≤ ((ji25) : Int) := of_decide_eq_true (by first | (with_reducible assumption) | assumption)
                  have q28 : (ji25) < (a0.size : Int) := of_decide_eq_true (by first | (with_reducible assumption) | assumption)
                  have hx28 := bt_at a0 (ji25)
                  replace p28 := eq_true p28
                  replace q28 := eq_true q28
                  go_wp2
                  go_ret
                  exact ⟨by first | rfl | (simp; done) | (simp only [← hji25] <;> (first | rfl | simp)) | (simp [*]; done), by repeat (first | exact Drawn0.refl _ | apply Drawn0.step)⟩
                ·rw [if_neg c49] at H
                 have c49b0 : ((bt a0 a1) == 244) = false := beq_eq_false_iff_ne.mpr c49
                 have c49b1 : ((bt a0 a1) != 244) = true := bne_iff_ne.mpr c49
                 obtain rfl := Option.some.inj H
                 have p28 : 0 ≤ ((ji25) : Int) := of_decide_eq_true (by first | (with_reducible assumption) | assumption)
                 have q28 : (ji25) < (a0.size : Int) := of_decide_eq_true (by first | (with_reducible assumption) | assumption)
                 have hx28 := bt_at a0 (ji25)
                 replace p28 := eq_true p28
                 replace q28 := eq_true q28
                 go_wp2
                 go_ret
                 exact ⟨by first | rfl | (simp; done) | (simp only [← hji25] <;> (first | rfl | simp)) | (simp [*]; done), by repeat (first | exact Drawn0.refl _ | apply Drawn0.step)⟩
              ·rw [if_neg c47] at H
               have c47b0 : ((bt a0 a1) == 240) = false := beq_eq_false_iff_ne.mpr c47
               have c47b1 : ((bt a0 a1) != 240) = true := bne_iff_ne.mpr c47
               by_cases c51 : (bt a0 a1) = 244
               ·rw [if_pos c51] at H
                have c51b0 : ((bt a0 a1) == 244) = true := beq_iff_eq.mpr c51
                have c51b1 : ((bt a0 a1) != 244) = false := bne_eq_false_iff_eq.mpr c51
                clear c51
                by_cases c52 : (bt a0 (ji25)) > 143
                ·rw [if_pos c52] at H
                 have c52b0 : decide (143 < (bt a0 (ji25))) = true := decide_eq_true c52
                 clear c52
                 obtain rfl := Option.some.inj H
                 have p28 : 0 ≤ ((ji25) : Int) := of_decide_eq_true (by first | (with_reducible assumption) | assumption)
                 have q28 : (ji25) < (a0.size : Int) := of_decide_eq_true (by first | (with_reducible assumption) | assumption)
                 have hx28 := bt_at a0 (ji25)
                 replace p28 := eq_true p28
                 replace q28 := eq_true q28
                 go_wp2
                 go_ret
                 exact ⟨by first | rfl | (simp; done) | (simp only [← hji25] <;> (first | rfl | simp)) | (simp [*]; done), by repeat (first | exact Drawn0.refl _ | apply Drawn0.step)⟩
                ·rw [if_neg c52] at H
                 have c52b0 : decide (143 < (bt a0 (ji25))) = false := decide_eq_false c52
                 clear c52
                 obtain rfl := Option.some.inj H
                 have p28 : 0 ≤ ((ji25) : Int) := of_decide_eq_true (by first | (with_reducible assumption) | assumption)
                 have q28 : (ji25) < (a0.size : Int) := of_decide_eq_true (by first | (with_reducible assumption) | assumption)
                 have hx28 := bt_at a0 (ji25)
                 replace p28 := eq_true p28
                 replace q28 := eq_true q28
                 go_wp2
                 go_ret
                 exact ⟨by first | rfl | (simp; done) | (simp only [← hji25] <;> (first | rfl | simp)) | (simp [*]; done), by repeat (first | exact Drawn0.refl _ | apply Drawn0.step)⟩
               ·rw [if_neg c51] at H
                have c51b0 : ((bt a0 a1) == 244) = false := beq_eq_false_iff_ne.mpr c51
                have c51b1 : ((bt a0 a1) != 244) = true := bne_iff_ne.mpr c51
                obtain rfl := Option.some.inj H
                have p28 : 0 ≤ ((ji25) : Int) := of_decide_eq_true (by first | (with_reducible assumption) | assumption)
                have q28 : (ji25) < (a0.size : Int) := of_decide_eq_true (by first | (with_reducible assumption) | assumption)
                have hx28 := bt_at a0 (ji25)
                replace p28 := eq_true p28
                replace q28 := eq_true q28
                go_wp2
                go_ret
                exact ⟨by first | rfl | (simp; done) | (simp only [← hji25] <;> (first | rfl | simp)) | (simp [*]; done), by repeat (first | exact Drawn0.refl _ | apply Drawn0.step)⟩
            ·rw [if_neg c45] at H
             have c45b0 : ((bt a0 a1) == 237) = false := beq_eq_false_iff_ne.mpr c45
             have c45b1 : ((bt a0 a1) != 237) = true := bne_iff_ne.mpr c45
             by_cases c53 : (bt a0 a1) = 240
             ·rw [if_pos c53] at H
              have c53b0 : ((bt a0 a1) == 240) = true := beq_iff_eq.mpr c53
              have c53b1 : ((bt a0 a1) != 240) = false := bne_eq_false_iff_eq.mpr c53
              clear c53
              by_cases c54 : (bt a0 (ji25)) < 144
              ·rw [if_pos c54] at H
               have c54b0 : decide ((bt a0 (ji25)) < 144) = true := decide_eq_true c54
               clear c54
               obtain rfl := Option.some.inj H
               have p28 : 0 ≤ ((ji25) : Int) := of_decide_eq_true (by first | (with_reducible assumption) | assumption)
               have q28 : (ji25) < (a0.size : Int) := of_decide_eq_true (by first | (with_reducible assumption) | assumption)
               have hx28 := bt_at a0 (ji25)
               replace p28 := eq_true p28
               replace q28 := eq_true q28
               go_wp2
               go_ret
               exact ⟨by first | rfl | (simp; done) | (simp only [← hji25] <;> (first | rfl | simp)) | (simp [*]; done), by repeat (first | exact Drawn0.refl _ | apply Drawn0.step)⟩
              ·rw [if_neg c54] at H
               have c54b0 : decide ((bt a0 (ji25)) < 144) = false := decide_eq_false c54
               clear c54
               by_cases c55 : (bt a0 a1) = 244
               ·rw [if_pos c55] at H
                have c55b0 : ((bt a0 a1) == 244) = true := beq_iff_eq.mpr c55
                have c55b1 : ((bt a0 a1) != 244) = false := bne_eq_false_iff_eq.mpr c55
                clear c55
                by_cases c56 : (bt a0 (ji25)) > 143
                ·rw [if_pos c56] at H
                 have c56b0 : decide (143 < (bt a0 (ji25))) = true := decide_eq_true c56
                 clear c56
                 obtain rfl := Option.some.inj H
                 have p28 : 0 ≤ ((ji25) : Int) := of_decide_eq_true (by first | (with_reducible assumption) | assumption)
                 have q28 : (ji25) < (a0.size : Int) := of_decide_eq_true (by first | (with_reducible assumption) | assumption)
                 have hx28 := bt_at a0 (ji25)
                 replace p28 := eq_true p28
                 replace q28 := eq_true q28
                 go_wp2
                 go_ret
                 exact ⟨by first | rfl | (simp; done) | (simp only [← hji25] <;> (first | rfl | simp)) | (simp [*]; done), by repeat (first | exact Drawn0.refl _ | apply Drawn0.step)⟩
                ·rw [if_neg c56] at H
                 have c56b0 : decide (143 < (bt a0 (ji25))) = false := decide_eq_false c56
                 clear c56
                 obtain rfl := Option.some.inj H
                 have p28 : 0 ≤ ((ji25) : Int) := of_decide_eq_true (by first | (with_reducible assumption) | assumption)
                 have q28 : (ji25) < (a0.size : Int) := of_decide_eq_true (by first | (with_reducible assumption) | assumption)
                 have hx28 := bt_at a0 (ji25)
                 replace p28 := eq_true p28
                 replace q28 := eq_true q28
                 go_wp2
                 go_ret
                 exact ⟨by first | rfl | (simp; done) | (simp only [← hji25] <;> (first | rfl | simp)) | (simp [*]; done), by repeat (first | exact Drawn0.refl _ | apply Drawn0.step)⟩
               ·rw [if_neg c55] at H
                have c55b0 : ((bt a0 a1) == 244) = false := beq_eq_false_iff_ne.mpr c55
                have c55b1 : ((bt a0 a1) != 244) = true := bne_iff_ne.mpr c55
                obtain rfl := Option.some.inj H
                have p28 : 0 ≤ ((ji25) : Int) := of_decide_eq_true (by first | (with_reducible assumption) | assumption)
                have q28 : (ji25) < (a0.size : Int) := of_decide_eq_true (by first | (with_reducible assumption) | assumption)
                have hx28 := bt_at a0 (ji25)
                replace p28 := eq_true p28
                replace q28 := eq_true q28
                go_wp2
                go_ret
                exact ⟨by first | rfl | (simp; done) | (simp only [← hji25] <;> (first | rfl | simp)) | (simp [*]; done), by repeat (first | exact Drawn0.refl _ | apply Drawn0.step)⟩
             ·rw [if_neg c53] at H
              have c53b0 : ((bt a0 a1) == 240) = false := beq_eq_false_iff_ne.mpr c53
              have c53b1 : ((bt a0 a1) != 240) = true := bne_iff_ne.mpr c53
              by_cases c57 : (bt a0 a1) = 244
              ·rw [if_pos c57] at H
               have c57b0 : ((bt a0 a1) == 244) = true := beq_iff_eq.mpr c57
               have c57b1 : ((bt a0 a1) != 244) = false := bne_eq_false_iff_eq.mpr c57
               clear c57
               by_cases c58 : (bt a0 (ji25)) > 143
               ·rw [if_pos c58] at H
                have c58b0 : decide (143 < (bt a0 (ji25))) = true := decide_eq_true c58
                clear c58
                obtain rfl := Option.some.inj H
                have p28 : 0 ≤ ((ji25) : Int) := of_decide_eq_true (by first | (with_reducible assumption) | assumption)
                have q28 : (ji25) < (a0.size : Int) := of_decide_eq_true (by first | (with_reducible assumption) | assumption)
                have hx28 := bt_at a0 (ji25)
                replace p28 := eq_true p28
                replace q28 := eq_true q28
                go_wp2
                go_ret
                exact ⟨by first | rfl | (simp; done) | (simp only [← hji25] <;> (first | rfl | simp)) | (simp [*]; done), by repeat (first | exact Drawn0.refl _ | apply Drawn0.step)⟩
               ·rw [if_neg c58] at H
                have c58b0 : decide (143 < (bt a0 (ji25))) = false := decide_eq_false c58
                clear c58
                obtain rfl := Option.some.inj H
                have p28 : 0 ≤ ((ji25) : Int) := of_decide_eq_true (by first | (with_reducible assumption) | assumption)
                have q28 : (ji25) < (a0.size : Int) := of_decide_eq_true (by first | (with_reducible assumption) | assumption)
                have hx28 := bt_at a0 (ji25)
                replace p28 := eq_true p28
                replace q28 := eq_true q28
                go_wp2
                go_ret
                exact ⟨by first | rfl | (simp; done) | (simp only [← hji25] <;> (first | rfl | simp)) | (simp [*]; done), by repeat (first | exact Drawn0.refl _ | apply Drawn0.step)⟩
              ·rw [if_neg c57] at H
               have c57b0 : ((bt a0 a1) == 244) = false := beq_eq_false_iff_ne.mpr c57
               have c57b1 : ((bt a0 a1) != 244) = true := bne_iff_ne.mpr c57
               obtain rfl := Option.some.inj H
               have p28 : 0 ≤ ((ji25) : Int) := of_decide_eq_true (by first | (with_reducible assumption) | assumption)
               have q28 : (ji25) < (a0.size : Int) := of_decide_eq_true (by first | (with_reducible assumption) | assumption)
               have hx28 := bt_at a0 (ji25)
               replace p28 := eq_true p28
               replace q28 := eq_true q28
               go_wp2
               go_ret
               exact ⟨by first | rfl | (simp; done) | (simp only [← hji25] <;> (first | rfl | simp)) | (simp [*]; done), by repeat (first | exact Drawn0.refl _ | apply Drawn0.step)⟩
          ·rw [if_neg c27] at H
           exact absurd H (by simp)
         ·rw [if_neg c26] at H
          exact absurd H (by simp)
  ·rw [if_neg c4] at H
   exact absurd H (by simp)
 ·rw [if_neg c3] at H
  exact absurd H (by simp)
end Go.Proofs.YtknmbalhbecdhaaGreatDoor.Print
end
section
namespace Go.Proofs.YtknmbalhbecdhaaGreatDoor.Print
open Go.RowKit Go.Proofs.YtknmbalhbecdhaaGreatDoorW.PrintWords Go.Proofs.YtknmbalhbecdhaaGreatDoorW.PrintLast
set_option linter.unusedVariables false
set_option linter.unusedSimpArgs false
def trystref08_UTF.l0 : Nat → ByteArray → Int → Option (Bool)
 | 0, _, _ => none
 | k + 1, x0, x3 => if x3 < (x0.size : Int) then ((trystref08_next.f k x0 x3).bind fun t249 => (if t249 = 0 then (some false) else (trystref08_UTF.l0 k x0 (wrap64 (x3 + t249))))) else (some true)
def trystref08_UTF.f (k : Nat) (a0 : ByteArray) : Option (Bool) := trystref08_UTF.l0 k a0 0
set_option maxHeartbeats 8000000 in
set_option maxRecDepth 100000 in
theorem trystref08_UTF.calls (k : Nat) (a0 : ByteArray) (r : Bool) (w : World) (hG : GG w) (h : trystref08_UTF.f k a0 = some r) :
  Calls Tryz.prog 47 #[.string a0] w fun e w' => e = .returned (.bool r) ∧ Drawn0 w w' := by
 have H : (trystref08_UTF.l0 k a0 0) = some r := h
 clear h
 have H' := Aside0.mk H
 clear H
 go_enter Tryz.func47, Tryz.ntmps47
 go_wp2
 go_loopg [3] k (fun kq v3 w' => ∃ (x3_1 : Int), v3 = .int .i64 x3_1 ∧ Aside0 (trystref08_UTF.l0 kq a0 x3_1 = some r) ∧ Aside0 (kq ≤ k) ∧ Drawn0 w w')
 case atStart => exact ⟨(0), (by first | rfl | (simp; done) | (simp [bne_nil_isEmpty, beq_nil_isEmpty]; done) | (simp [*]; done)), H', ⟨Nat.le_refl _⟩, by repeat (first | exact Drawn0.refl _ | apply Drawn0.step)⟩
 case round =>
  clear H'
  obtain ⟨x3_1, rfl, HA, HK1, ⟨m1, rfl⟩⟩ := hrel
  cases gk with
  | zero => exact absurd HA.out (by simp [trystref08_UTF.l0])
  | succ k1 =>
   have H := HA.out
   clear HA
   simp only [trystref08_UTF.l0] at H
   by_cases c2 : x3_1 < (a0.size : Int)
   ·rw [if_pos c2] at H
    have c2b0 : decide (x3_1 < (a0.size : Int)) = true := decide_eq_true c2
    clear c2
    replace H := Option.bind_eq_some_iff.mp H
    obtain ⟨t249, A30, H⟩ := H
    replace H : (if t249 = 0 then (some false) else (trystref08_UTF.l0 k1 a0 (wrap64 (x3_1 + t249)))) = some r := H
    have A3 := Aside0.mk A30
    clear A30
    by_cases c4 : t249 = 0
    ·rw [if_pos c4] at H
     have c4b0 : (t249 == 0) = true := beq_iff_eq.mpr c4
     have c4b1 : (t249 != 0) = false := bne_eq_false_iff_eq.mpr c4
     clear c4
     obtain rfl := Option.some.inj H
     go_wp2_with (first | ((with_reducible refine gate_callee (f := 55) rfl ?_); refine goesL_ (some 11) rfl rfl Tryz.func55 (by kernel_rfl) rfl #[.string a0, .int .i64 x3_1] rfl (by (try simp only [List.map_toArray, List.map_cons, List.map_nil]); first | done | rfl | (simp only [List.length_drop, List.length_take]; rfl)) ?_; (with_reducible refine (trystref08_next.calls k1 a0 x3_1 t249 _ (by repeat (first | (with_reducible exact hG) | apply GG.drewN | apply GG.drew)) A3.out).mono ?_); rintro e w' ⟨rfl, ⟨nd, rfl⟩⟩; refine ⟨_, rfl, ?_⟩))
     go_ret
     exact ⟨by first | rfl | (simp; done) | (simp [bne_nil_isEmpty, beq_nil_isEmpty]; done) | (simp [*]; done), by repeat (first | exact Drawn0.refl _ | apply Drawn0.step)⟩
    ·rw [if_neg c4] at H
     have c4b0 : (t249 == 0) = false := beq_eq_false_iff_ne.mpr c4
     have c4b1 : (t249 != 0) = true := bne_iff_ne.mpr c4
     have H' := Aside0.mk H
     clear H
     go_wp2_with (first | ((with_reducible refine gate_callee (f := 55) rfl ?_); refine goesL_ (some 11) rfl rfl Tryz.func55 (by kernel_rfl) rfl #[.string a0, .int .i64 x3_1] rfl (by (try simp only [List.map_toArray, List.map_cons, List.map_nil]); first | done | rfl | (simp only [List.length_drop, List.length_take]; rfl)) ?_; (with_reducible refine (trystref08_next.calls k1 a0 x3_1 t249 _ (by repeat (first | (with_reducible exact hG) | apply GG.drewN | apply GG.drew)) A3.out).mono ?_); rintro e w' ⟨rfl, ⟨nd, rfl⟩⟩; refine ⟨_, rfl, ?_⟩))
     go_roundg k1
     case measure => have := HK1.out; omega
     case rel => exact ⟨(wrap64 (x3_1 + t249)), (by first | rfl | (simp; done) | (simp [bne_nil_isEmpty, beq_nil_isEmpty]; done) | (simp [*]; done)), H', ⟨by have := HK1.out; omega⟩, by repeat (first | exact Drawn0.refl _ | apply Drawn0.step)⟩
   ·rw [if_neg c2] at H
    have c2b0 : decide (x3_1 < (a0.size : Int)) = false := decide_eq_false c2
    clear c2
    obtain rfl := Option.some.inj H
    go_wp2
    go_ret
    exact ⟨by first | rfl | (simp; done) | (simp [bne_nil_isEmpty, beq_nil_isEmpty]; done) | (simp [*]; done), by repeat (first | exact Drawn0.refl _ | apply Drawn0.step)⟩
def trystref08_Clean.l0 : Nat → ByteArray → Bool → Int → Int → Option (Int)
 | 0, _, _, _, _ => none
 | k + 1, x0, x1, x11, x12 => if x12 < x11 then (if 0 ≤ x12 then (if x12 < (x0.size : Int) then (if (bt x0 x12) = 127 then (some 7) else (if (bt x0 x12) < 32 then (if (bt x0 x12) = 9 then (trystref08_Clean.l0 k x0 x1 x11 (wrap64 (x12 + 1))) else (if x1 = true then (if ((bt x0 x12) = 10) then (trystref08_Clean.l0 k x0 x1 x11 (wrap64 (x12 + 1))) else (some 7)) else (some 7))) else (trystref08_Clean.l0 k x0 x1 x11 (wrap64 (x12 + 1))))) else (none)) else (none)) else (some 0)
def trystref08_Clean.f (k : Nat) (a0 : ByteArray) (a1 : Bool) : Option (Int) := (trystref08_UTF.f k a0).bind fun t250 => (if t250 = true then (trystref08_Clean.l0 k a0 a1 (a0.size : Int) 0) else (some 3))
set_option maxHeartbeats 8000000 in
set_option maxRecDepth 100000 in
theorem trystref08_Clean.calls (k : Nat) (a0 : ByteArray) (a1 : Bool) (r : Int) (w : World) (hG : GG w) (h : trystref08_Clean.f k a0 a1 = some r) :
  Calls Tryz.prog 28 #[.string a0, .bool a1] w fun e w' => e = .returned (.int .i64 r) ∧ Drawn0 w w' := by
 have H : ((trystref08_UTF.f k a0).bind fun t250 => (if t250 = true then (trystref08_Clean.l0 k a0 a1 (a0.size : Int) 0) else (some 3))) = some r := h
 clear h
 replace H := Option.bind_eq_some_iff.mp H
 obtain ⟨t250, A30, H⟩ := H
 replace H : (if t250 = true then (trystref08_Clean.l0 k a0 a1 (a0.size : Int) 0) else (some 3)) = some r := H
 have A3 := Aside0.mk A30
 clear A30
 by_cases c4 : t250 = true
 ·subst c4
  rw [if_pos rfl] at H
  have H' := Aside0.mk H
  clear H
  go_enter Tryz.func28, Tryz.ntmps28
  go_wp2_with (first | ((with_reducible refine gate_callee (f := 47) rfl ?_); refine goesL_ (some 8) rfl rfl Tryz.func47 (by kernel_rfl) rfl #[.string a0] rfl (by (try simp only [List.map_toArray, List.map_cons, List.map_nil]); first | done | rfl | (simp only [List.length_drop, List.length_take]; rfl)) ?_; (with_reducible refine (trystref08_UTF.calls k a0 true _ (by repeat (first | (with_reducible exact hG) | apply GG.drewN | apply GG.drew)) A3.out).mono ?_); rintro e w' ⟨rfl, ⟨nd, rfl⟩⟩; refine ⟨_, rfl, ?_⟩))
  go_loopg [12] k (fun kq v12 w' => ∃ (x12_1 : Int), v12 = .int .i64 x12_1 ∧ Aside0 (trystref08_Clean.l0 kq a0 a1 (a0.size : Int) x12_1 = some r) ∧ Aside0 (kq ≤ k) ∧ Drawn0 w w')
  case atStart => exact ⟨(0), (by first | rfl | (simp; done) | (simp [bne_nil_isEmpty, beq_nil_isEmpty]; done) | (simp [*]; done)), H', ⟨Nat.le_refl _⟩, by repeat (first | exact Drawn0.refl _ | apply Drawn0.step)⟩
  case round =>
   clear H'
   try clear c2
   try clear p2
   try clear c4
   obtain ⟨x12_1, rfl, HA, HK1, ⟨m1, rfl⟩⟩ := hrel
   cases gk with
   | zero => exact absurd HA.out (by simp [trystref08_Clean.l0])
   | succ k1 =>
    have H := HA.out
    clear HA
    simp only [trystref08_Clean.l0] at H
    by_cases c5 : x12_1 < (a0.size : Int)
    ·rw [if_pos c5] at H
     have c5b0 : decide (x12_1 < (a0.size : Int)) = true := decide_eq_true c5
     clear c5
     by_cases c6 : 0 ≤ x12_1
     ·rw [if_pos c6] at H
      have c6b0 : decide (0 ≤ x12_1) = true := decide_eq_true c6
      clear c6
      by_cases c7 : x12_1 < (a0.size : Int)
      ·rw [if_pos c7] at H
       have c7b0 : decide (x12_1 < (a0.size : Int)) = true := decide_eq_true c7
       clear c7
       by_cases c9 : (bt a0 x12_1) = 127
       ·rw [if_pos c9] at H
        have c9b0 : ((bt a0 x12_1) == 127) = true := beq_iff_eq.mpr c9
        have c9b1 : ((bt a0 x12_1) != 127) = false := bne_eq_false_iff_eq.mpr c9
        clear c9
        obtain rfl := Option.some.inj H
        have p8 : 0 ≤ (x12_1 : Int) := of_decide_eq_true (by first | (with_reducible assumption) | assumption)
        have q8 : x12_1 < (a0.size : Int) := of_decide_eq_true (by first | (with_reducible assumption) | assumption)
        have hx8 := bt_at a0 x12_1
        replace p8 := eq_true p8
        replace q8 := eq_true q8
        go_wp2
        go_ret
        exact ⟨by first | rfl | (simp; done) | (simp [bne_nil_isEmpty, beq_nil_isEmpty]; done) | (simp [*]; done), by repeat (first | exact Drawn0.refl _ | apply Drawn0.step)⟩
       ·rw [if_neg c9] at H
        have c9b0 : ((bt a0 x12_1) == 127) = false := beq_eq_false_iff_ne.mpr c9
        have c9b1 : ((bt a0 x12_1) != 127) = true := bne_iff_ne.mpr c9
        by_cases c10 : (bt a0 x12_1) < 32
        ·rw [if_pos c10] at H
         have c10b0 : decide ((bt a0 x12_1) < 32) = true := decide_eq_true c10
         clear c10
         by_cases c11 : (bt a0 x12_1) = 9
         ·rw [if_pos c11] at H
          have c11b0 : ((bt a0 x12_1) == 9) = true := beq_iff_eq.mpr c11
          have c11b1 : ((bt a0 x12_1) != 9) = false := bne_eq_false_iff_eq.mpr c11
          clear c11
          have H' := Aside0.mk H
          clear H
          have p8 : 0 ≤ (x12_1 : Int) := of_decide_eq_true (by first | (with_reducible assumption) | assumption)
          have q8 : x12_1 < (a0.size : Int) := of_decide_eq_true (by first | (with_reducible assumption) | assumption)
          have hx8 := bt_at a0 x12_1
          replace p8 := eq_true p8
          replace q8 := eq_true q8
          go_wp2
          go_roundg k1
          case measure => have := HK1.out; omega
          case rel => exact ⟨(wrap64 (x12_1 + 1)), (by first | rfl | (simp; done) | (simp [bne_nil_isEmpty, beq_nil_isEmpty]; done) | (simp [*]; done)), H', ⟨by have := HK1.out; omega⟩, by repeat (first | exact Drawn0.refl _ | apply Drawn0.step)⟩
         ·rw [if_neg c11] at H
          have c11b0 : ((bt a0 x12_1) == 9) = false := beq_eq_false_iff_ne.mpr c11
          have c11b1 : ((bt a0 x12_1) != 9) = true := bne_iff_ne.mpr c11
          by_cases c12 : a1 = true
          ·subst c12
           rw [if_pos rfl] at H
           by_cases c13 : ((bt a0 x12_1) = 10)
           ·rw [if_pos c13] at H
            have c13b0 : ((bt a0 x12_1) == 10) = true := beq_iff_eq.mpr c13
            have c13b1 : ((bt a0 x12_1) != 10) = false := bne_eq_false_iff_eq.mpr c13
            clear c13
            have H' := Aside0.mk H
            clear H
            have p8 : 0 ≤ (x12_1 : Int) := of_decide_eq_true (by first | (with_reducible assumption) | assumption)
            have q8 : x12_1 < (a0.size : Int) := of_decide_eq_true (by first | (with_reducible assumption) | assumption)
            have hx8 := bt_at a0 x12_1
            replace p8 := eq_true p8
            replace q8 := eq_true q8
            go_wp2
            go_roundg k1
            case measure => have := HK1.out; omega
            case rel => exact ⟨(wrap64 (x12_1 + 1)), (by first | rfl | (simp; done) | (simp [bne_nil_isEmpty, beq_nil_isEmpty]; done) | (simp [*]; done)), H', ⟨by have := HK1.out; omega⟩, by repeat (first | exact Drawn0.refl _ | apply Drawn0.step)⟩
           ·rw [if_neg c13] at H
            have c13b0 : ((bt a0 x12_1) == 10) = false := beq_eq_false_iff_ne.mpr c13
            have c13b1 : ((bt a0 x12_1) != 10) = true := bne_iff_ne.mpr c13
            obtain rfl := Option.some.inj H
            have p8 : 0 ≤ (x12_1 : Int) := of_decide_eq_true (by first | (with_reducible assumption) | assumption)
            have q8 : x12_1 < (a0.size : Int) := of_decide_eq_true (by first | (with_reducible assumption) | assumption)
            have hx8 := bt_at a0 x12_1
            replace p8 := eq_true p8
            replace q8 := eq_true q8
            go_wp2
            go_ret
            exact ⟨by first | rfl | (simp; done) | (simp [bne_nil_isEmpty, beq_nil_isEmpty]; done) | (simp [*]; done), by repeat (first | exact Drawn0.refl _ | apply Drawn0.step)⟩
          ·replace c12 := Bool.eq_false_iff.mpr c12
           subst c12
           rw [if_neg (show ¬ (false = true) by decide)] at H
           obtain rfl := Option.some.inj H
           have p8 : 0 ≤ (x12_1 : Int) := of_decide_eq_true (by first | (with_reducible assumption) | assumption)
           have q8 : x12_1 < (a0.size : Int) := of_decide_eq_true (by first | (with_reducible assumption) | assumption)
           have hx8 := bt_at a0 x12_1
           replace p8 := eq_true p8
           replace q8 := eq_true q8
           go_wp2
           go_ret
           exact ⟨by first | rfl | (simp; done) | (simp [bne_nil_isEmpty, beq_nil_isEmpty]; done) | (simp [*]; done), by repeat (first | exact Drawn0.refl _ | apply Drawn0.step)⟩
        ·rw [if_neg c10] at H
         have c10b0 : decide ((bt a0 x12_1) < 32) = false := decide_eq_false c10
         clear c10
         have H' := Aside0.mk H
         clear H
         have p8 : 0 ≤ (x12_1 : Int) := of_decide_eq_true (by first | (with_reducible assumption) | assumption)
         have q8 : x12_1 < (a0.size : Int) := of_decide_eq_true (by first | (with_reducible assumption) | assumption)
         have hx8 := bt_at a0 x12_1
         replace p8 := eq_true p8
         replace q8 := eq_true q8
         go_wp2
         go_roundg k1
         case measure => have := HK1.out; omega
         case rel => exact ⟨(wrap64 (x12_1 + 1)), (by first | rfl | (simp; done) | (simp [bne_nil_isEmpty, beq_nil_isEmpty]; done) | (simp [*]; done)), H', ⟨by have := HK1.out; omega⟩, by repeat (first | exact Drawn0.refl _ | apply Drawn0.step)⟩
      ·rw [if_neg c7] at H
       exact absurd H (by simp)
     ·rw [if_neg c6] at H
      exact absurd H (by simp)
    ·rw [if_neg c5] at H
     have c5b0 : decide (x12_1 < (a0.size : Int)) = false := decide_eq_false c5
     clear c5
     obtain rfl := Option.some.inj H
     go_wp2
     go_ret
     exact ⟨by first | rfl | (simp; done) | (simp [bne_nil_isEmpty, beq_nil_isEmpty]; done) | (simp [*]; done), by repeat (first | exact Drawn0.refl _ | apply Drawn0.step)⟩
 ·replace c4 := Bool.eq_false_iff.mpr c4
  subst c4
  rw [if_neg (show ¬ (false = true) by decide)] at H
  obtain rfl := Option.some.inj H
  go_enter Tryz.func28, Tryz.ntmps28
  go_wp2_with (first | ((with_reducible refine gate_callee (f := 47) rfl ?_); refine goesL_ (some 8) rfl rfl Tryz.func47 (by kernel_rfl) rfl #[.string a0] rfl (by (try simp only [List.map_toArray, List.map_cons, List.map_nil]); first | done | rfl | (simp only [List.length_drop, List.length_take]; rfl)) ?_; (with_reducible refine (trystref08_UTF.calls k a0 false _ (by repeat (first | (with_reducible exact hG) | apply GG.drewN | apply GG.drew)) A3.out).mono ?_); rintro e w' ⟨rfl, ⟨nd, rfl⟩⟩; refine ⟨_, rfl, ?_⟩))
  go_ret
  exact ⟨by first | rfl | (simp; done) | (simp [bne_nil_isEmpty, beq_nil_isEmpty]; done) | (simp [*]; done), by repeat (first | exact Drawn0.refl _ | apply Drawn0.step)⟩
end Go.Proofs.YtknmbalhbecdhaaGreatDoor.Print
end
section
set_option linter.unusedVariables false
set_option linter.unusedSimpArgs false
namespace Go.Proofs.YtknmbalhbecdhaaGreatDoor.Pure
open Go.RowKit Go.Proofs.YtknmbalhbecdhaaGreatDoor.Print Go.Proofs.YtknmbalhbecdhaaGreatDoorW.PrintWords Go.Proofs.YtknmbalhbecdhaaGreatDoorW.PrintLast
theorem bt_nat (s : ByteArray) (m : Nat) : bt s (m : Int) = ((s.data.toList.getD m 0).toNat : Int) := by
  unfold bt
  by_cases h : m < s.size
  · rw [dif_pos (by simpa using h)]
    have : s.data.toList.getD m 0 = s[m] := by
      rw [List.getD_eq_getElem?_getD, List.getElem?_eq_getElem (by simpa using h)]; rfl
    rw [this]; rfl
  · rw [dif_neg (by simpa using h)]
    rw [List.getD_eq_getElem?_getD, List.getElem?_eq_none (by simp; omega)]; rfl
theorem wrap_nat (m : Nat) (c : Nat) (h : m + c ≤ 140737488355328) : wrap64 ((m : Int) + (c : Int)) = ((m + c : Nat) : Int) := by
  unfold wrap64; omega
theorem wrap_one (m : Nat) (h : m ≤ 140737488355327) : wrap64 ((m : Int) + 1) = ((m + 1 : Nat) : Int) := by
  unfold wrap64; omega
def refN (n b0 b1 b2 b3 : Nat) : Nat :=
  if b0 < 128 then 1
  else if 194 ≤ b0 ∧ b0 < 224 then (if n < 2 then 0 else if 128 ≤ b1 ∧ b1 < 192 then 2 else 0)
  else if 224 ≤ b0 ∧ b0 < 240 then (if n < 3 then 0 else if (128 ≤ b1 ∧ b1 < 192) ∧ 128 ≤ b2 ∧ b2 < 192 then (if b0 = 224 ∧ b1 < 160 ∨ b0 = 237 ∧ 159 < b1 then 0 else 3) else 0)
  else if 240 ≤ b0 ∧ b0 < 245 then (if n < 4 then 0 else if (128 ≤ b1 ∧ b1 < 192) ∧ (128 ≤ b2 ∧ b2 < 192) ∧ 128 ≤ b3 ∧ b3 < 192 then (if b0 = 240 ∧ b1 < 144 ∨ b0 = 244 ∧ 143 < b1 then 0 else 4) else 0)
  else 0
def nxN (d : Nat × Nat) : Nat := if d = (65533, 1) then 0 else d.2
set_option maxHeartbeats 2000000 in
theorem refN_eq (n b0 b1 b2 b3 : Nat) (hn : 1 ≤ n) (h0 : b0 < 256) (h1 : b1 < 256) (h2 : b2 < 256) (h3 : b3 < 256) : refN n b0 b1 b2 b3 = nxN (Lib.decodeN n b0 b1 b2 b3) := by
  unfold refN nxN Lib.decodeN
  by_cases c0 : b0 < 128
  · rw [if_pos c0, if_pos c0, if_neg (by simp; omega)]
  · rw [if_neg c0, if_neg c0]
    by_cases c1 : 194 ≤ b0 ∧ b0 < 224
    · rw [if_pos c1]
      repeat' split
      all_goals first | rfl | (exfalso; omega) | (simp_all; omega) | simp_all
    · rw [if_neg c1]
      by_cases c2 : 224 ≤ b0 ∧ b0 < 240
      · rw [if_pos c2]
        repeat' split
        all_goals first | rfl | (exfalso; omega) | (simp_all; omega) | simp_all
      · rw [if_neg c2]
        by_cases c3 : 240 ≤ b0 ∧ b0 < 245
        · rw [if_pos c3]
          repeat' split
          all_goals first | rfl | (exfalso; omega) | (simp_all; omega) | simp_all
        · rw [if_neg c3]
          repeat' split
          all_goals first | rfl | (exfalso; omega) | (simp_all; omega) | simp_all
theorem lt256 (l : List UInt8) (m : Nat) : (l.getD m 0).toNat < 256 := (l.getD m 0).toNat_lt
structure At (s : ByteArray) (i b0 b1 b2 b3 : Nat) : Prop where
  h0 : b0 < 256
  h1 : b1 < 256
  h2 : b2 < 256
  h3 : b3 < 256
  hi : i < s.size
  hs : s.size ≤ 140737488351232
  e0 : bt s (i : Int) = (b0 : Int)
  e1 : bt s ((i + 1 : Nat) : Int) = (b1 : Int)
  e2 : bt s ((i + 2 : Nat) : Int) = (b2 : Int)
  e3 : bt s ((i + 3 : Nat) : Int) = (b3 : Int)
  w1 : wrap64 ((i : Int) + 1) = ((i + 1 : Nat) : Int)
  w2 : wrap64 ((i : Int) + 2) = ((i + 2 : Nat) : Int)
  w3 : wrap64 ((i : Int) + 3) = ((i + 3 : Nat) : Int)
  w4 : wrap64 ((i : Int) + 4) = ((i + 4 : Nat) : Int)
theorem v1 : wrap64 (1 + 1) = 2 := by unfold wrap64; omega
theorem v2 : wrap64 (2 + 1) = 3 := by unfold wrap64; omega
theorem v3 : wrap64 (3 + 1) = 4 := by unfold wrap64; omega
section
variable {s : ByteArray} {i b0 b1 b2 b3 : Nat}
theorem next_1 (A : At s i b0 b1 b2 b3) (c : b0 < 128) : trystref08_next.f 0 s i = some 1 := by
  have h1 : (0 : Int) ≤ (i : Int) := by omega
  have h2 : (i : Int) < (s.size : Int) := by have := A.hi; omega
  have h3 : (b0 : Int) < 128 := by omega
  simp only [trystref08_next.f, A.e0]
  rw [if_pos h1, if_pos h2, if_pos h3]
theorem l0_step (k : Nat) (x5 n x7 m b : Int) (hx : x7 < n) (hw : wrap64 ((i : Int) + x7) = m) (h0 : 0 ≤ m) (h1 : m < (s.size : Int)) (hb : bt s m = b) :
    trystref08_next.l0 (k + 1) s i x5 n x7 = if 128 ≤ b ∧ b < 192 then trystref08_next.l0 k s i x5 n (wrap64 (x7 + 1)) else some 0 := by
  simp only [trystref08_next.l0, hw, hb]
  rw [if_pos hx, if_pos h0, if_pos h1]
  by_cases c1 : b < 128
  · rw [if_pos c1, if_neg (by omega)]
  · rw [if_neg c1]
    by_cases c2 : b > 191
    · rw [if_pos c2, if_neg (by omega)]
    · rw [if_neg c2, if_pos (by omega)]
theorem l0_end (A : At s i b0 b1 b2 b3) (h : i + 1 < s.size) (k : Nat) (n x7 : Int) (hx : ¬ x7 < n) :
    trystref08_next.l0 (k + 1) s i b0 n x7 = if (b0 = 224 ∧ b1 < 160) ∨ (b0 = 237 ∧ 159 < b1) ∨ (b0 = 240 ∧ b1 < 144) ∨ (b0 = 244 ∧ 143 < b1) then some 0 else some n := by
  simp only [trystref08_next.l0, A.w1, A.e1]
  rw [if_neg hx, if_pos (show (0 : Int) ≤ ((i + 1 : Nat) : Int) by omega), if_pos (show ((i + 1 : Nat) : Int) < (s.size : Int) by omega)]
  by_cases c1 : (b0 : Int) = 224
  · rw [if_pos c1]
    by_cases d1 : (b1 : Int) < 160
    · rw [if_pos d1, if_pos (by omega)]
    · rw [if_neg d1, if_neg (show ¬ (b0 : Int) = 237 by omega), if_neg (show ¬ (b0 : Int) = 240 by omega), if_neg (show ¬ (b0 : Int) = 244 by omega), if_neg (by omega)]
  · rw [if_neg c1]
    by_cases c2 : (b0 : Int) = 237
    · rw [if_pos c2]
      by_cases d1 : (b1 : Int) > 159
      · rw [if_pos d1, if_pos (by omega)]
      · rw [if_neg d1, if_neg (show ¬ (b0 : Int) = 240 by omega), if_neg (show ¬ (b0 : Int) = 244 by omega), if_neg (by omega)]
    · rw [if_neg c2]
      by_cases c3 : (b0 : Int) = 240
      · rw [if_pos c3]
        by_cases d1 : (b1 : Int) < 144
        · rw [if_pos d1, if_pos (by omega)]
        · rw [if_neg d1, if_neg (show ¬ (b0 : Int) = 244 by omega), if_neg (by omega)]
      · rw [if_neg c3]
        by_cases c4 : (b0 : Int) = 244
        · rw [if_pos c4]
          by_cases d1 : (b1 : Int) > 143
          · rw [if_pos d1, if_pos (by omega)]
          · rw [if_neg d1, if_neg (by omega)]
        · rw [if_neg c4, if_neg (by omega)]
theorem next_2 (A : At s i b0 b1 b2 b3) (c : 194 ≤ b0 ∧ b0 < 224) : trystref08_next.f 4 s i = some ((if s.size - i < 2 then 0 else if 128 ≤ b1 ∧ b1 < 192 then 2 else 0 : Nat) : Int) := by
  have hi := A.hi
  have g5 : decide ((b0 : Int) < 224) = true := by simp; omega
  simp only [trystref08_next.f, A.e0, g5]
  rw [if_pos (show (0 : Int) ≤ (i : Int) by omega), if_pos (show (i : Int) < (s.size : Int) by omega), if_neg (show ¬ (b0 : Int) < 128 by omega), if_pos (show (b0 : Int) ≥ 194 by omega)]
  simp only [trystref08_next.j0, if_true]
  simp only [trystref08_next.j2, A.w2]
  by_cases hn : s.size - i < 2
  · rw [if_pos hn, if_pos (show ((i + 2 : Nat) : Int) > (s.size : Int) by omega)]; rfl
  · rw [if_neg hn, if_neg (show ¬ ((i + 2 : Nat) : Int) > (s.size : Int) by omega)]
    rw [l0_step 1 _ _ _ _ _ (by omega) A.w1 (by omega) (by omega) A.e1, v1]
    by_cases k1 : 128 ≤ b1 ∧ b1 < 192
    · rw [if_pos k1, if_pos (by omega), l0_end A (by omega) 0 _ _ (by omega), if_neg (by omega)]; rfl
    · rw [if_neg k1, if_neg (by omega)]; rfl
theorem next_3 (A : At s i b0 b1 b2 b3) (c : 224 ≤ b0 ∧ b0 < 240) : trystref08_next.f 6 s i = some ((if s.size - i < 3 then 0 else if (128 ≤ b1 ∧ b1 < 192) ∧ 128 ≤ b2 ∧ b2 < 192 then (if b0 = 224 ∧ b1 < 160 ∨ b0 = 237 ∧ 159 < b1 then 0 else 3) else 0 : Nat) : Int) := by
  have hi := A.hi
  have g5 : decide ((b0 : Int) < 224) = false := by simp; omega
  have g6 : decide ((b0 : Int) < 240) = true := by simp; omega
  simp only [trystref08_next.f, A.e0, g5]
  rw [if_pos (show (0 : Int) ≤ (i : Int) by omega), if_pos (show (i : Int) < (s.size : Int) by omega), if_neg (show ¬ (b0 : Int) < 128 by omega), if_pos (show (b0 : Int) ≥ 194 by omega)]
  simp only [trystref08_next.j0, g6]
  rw [if_neg (by simp), if_pos (show (b0 : Int) ≥ 224 by omega)]
  simp only [trystref08_next.j1, if_true]
  simp only [trystref08_next.j2, A.w3]
  by_cases hn : s.size - i < 3
  · rw [if_pos hn, if_pos (show ((i + 3 : Nat) : Int) > (s.size : Int) by omega)]; rfl
  · rw [if_neg hn, if_neg (show ¬ ((i + 3 : Nat) : Int) > (s.size : Int) by omega)]
    rw [l0_step 2 _ _ _ _ _ (by omega) A.w1 (by omega) (by omega) A.e1, v1]
    by_cases k1 : 128 ≤ b1 ∧ b1 < 192
    · rw [if_pos (show 128 ≤ (b1 : Int) ∧ (b1 : Int) < 192 by omega), l0_step 1 _ _ _ _ _ (by omega) A.w2 (by omega) (by omega) A.e2, v2]
      by_cases k2 : 128 ≤ b2 ∧ b2 < 192
      · rw [if_pos (show 128 ≤ (b2 : Int) ∧ (b2 : Int) < 192 by omega), l0_end A (by omega) 0 _ _ (by omega)]
        by_cases k3 : b0 = 224 ∧ b1 < 160 ∨ b0 = 237 ∧ 159 < b1
        · rw [if_pos (by omega), if_pos ⟨k1, k2⟩, if_pos k3]; rfl
        · rw [if_neg (by omega), if_pos ⟨k1, k2⟩, if_neg k3]; rfl
      · rw [if_neg (show ¬ (128 ≤ (b2 : Int) ∧ (b2 : Int) < 192) by omega), if_neg (fun h => k2 h.2)]; rfl
    · rw [if_neg (show ¬ (128 ≤ (b1 : Int) ∧ (b1 : Int) < 192) by omega), if_neg (fun h => k1 h.1)]; rfl
theorem next_4 (A : At s i b0 b1 b2 b3) (c : 240 ≤ b0 ∧ b0 < 245) : trystref08_next.f 7 s i = some ((if s.size - i < 4 then 0 else if (128 ≤ b1 ∧ b1 < 192) ∧ (128 ≤ b2 ∧ b2 < 192) ∧ 128 ≤ b3 ∧ b3 < 192 then (if b0 = 240 ∧ b1 < 144 ∨ b0 = 244 ∧ 143 < b1 then 0 else 4) else 0 : Nat) : Int) := by
  have hi := A.hi
  have g5 : decide ((b0 : Int) < 224) = false := by simp; omega
  have g6 : decide ((b0 : Int) < 240) = false := by simp; omega
  simp only [trystref08_next.f, A.e0, g5]
  rw [if_pos (show (0 : Int) ≤ (i : Int) by omega), if_pos (show (i : Int) < (s.size : Int) by omega), if_neg (show ¬ (b0 : Int) < 128 by omega), if_pos (show (b0 : Int) ≥ 194 by omega)]
  simp only [trystref08_next.j0, g6]
  rw [if_neg (by simp), if_pos (show (b0 : Int) ≥ 224 by omega)]
  simp only [trystref08_next.j1]
  rw [if_neg (by simp), if_pos (show (b0 : Int) ≥ 240 by omega), if_pos (show (b0 : Int) < 245 by omega)]
  simp only [trystref08_next.j2, A.w4]
  by_cases hn : s.size - i < 4
  · rw [if_pos hn, if_pos (show ((i + 4 : Nat) : Int) > (s.size : Int) by omega)]; rfl
  · rw [if_neg hn, if_neg (show ¬ ((i + 4 : Nat) : Int) > (s.size : Int) by omega)]
    rw [l0_step 3 _ _ _ _ _ (by omega) A.w1 (by omega) (by omega) A.e1, v1]
    by_cases k1 : 128 ≤ b1 ∧ b1 < 192
    · rw [if_pos (show 128 ≤ (b1 : Int) ∧ (b1 : Int) < 192 by omega), l0_step 2 _ _ _ _ _ (by omega) A.w2 (by omega) (by omega) A.e2, v2]
      by_cases k2 : 128 ≤ b2 ∧ b2 < 192
      · rw [if_pos (show 128 ≤ (b2 : Int) ∧ (b2 : Int) < 192 by omega), l0_step 1 _ _ _ _ _ (by omega) A.w3 (by omega) (by omega) A.e3, v3]
        by_cases k4 : 128 ≤ b3 ∧ b3 < 192
        · rw [if_pos (show 128 ≤ (b3 : Int) ∧ (b3 : Int) < 192 by omega), l0_end A (by omega) 0 _ _ (by omega)]
          by_cases k3 : b0 = 240 ∧ b1 < 144 ∨ b0 = 244 ∧ 143 < b1
          · rw [if_pos (by omega), if_pos ⟨k1, k2, k4⟩, if_pos k3]; rfl
          · rw [if_neg (by omega), if_pos ⟨k1, k2, k4⟩, if_neg k3]; rfl
        · rw [if_neg (show ¬ (128 ≤ (b3 : Int) ∧ (b3 : Int) < 192) by omega), if_neg (fun h => k4 h.2.2)]; rfl
      · rw [if_neg (show ¬ (128 ≤ (b2 : Int) ∧ (b2 : Int) < 192) by omega), if_neg (fun h => k2 h.2.1)]; rfl
    · rw [if_neg (show ¬ (128 ≤ (b1 : Int) ∧ (b1 : Int) < 192) by omega), if_neg (fun h => k1 h.1)]; rfl
theorem next_0 (A : At s i b0 b1 b2 b3) (c0 : ¬ b0 < 128) (c1 : ¬ (194 ≤ b0 ∧ b0 < 224)) (c2 : ¬ (224 ≤ b0 ∧ b0 < 240)) (c3 : ¬ (240 ≤ b0 ∧ b0 < 245)) : trystref08_next.f 2 s i = some 0 := by
  have hi := A.hi
  have g5 : decide ((b0 : Int) < 224) = false ∨ b0 < 194 := by by_cases h : b0 < 194; exact .inr h; left; simp; omega
  have g6 : decide ((b0 : Int) < 240) = false ∨ b0 < 194 := by by_cases h : b0 < 194; exact .inr h; left; simp; omega
  simp only [trystref08_next.f, A.e0]
  rw [if_pos (show (0 : Int) ≤ (i : Int) by omega), if_pos (show (i : Int) < (s.size : Int) by omega), if_neg (show ¬ (b0 : Int) < 128 by omega)]
  by_cases c4 : 194 ≤ b0
  · have g5' : decide ((b0 : Int) < 224) = false := g5.resolve_right (by omega)
    have g6' : decide ((b0 : Int) < 240) = false := g6.resolve_right (by omega)
    rw [if_pos (show (b0 : Int) ≥ 194 by omega), g5']
    simp only [trystref08_next.j0, g6']
    rw [if_neg (by simp), if_pos (show (b0 : Int) ≥ 224 by omega)]
    simp only [trystref08_next.j1]
    rw [if_neg (by simp), if_pos (show (b0 : Int) ≥ 240 by omega), if_neg (show ¬ (b0 : Int) < 245 by omega)]
  · rw [if_neg (show ¬ (b0 : Int) ≥ 194 by omega)]
    simp only [trystref08_next.j0]
    rw [if_neg (by simp), if_neg (show ¬ (b0 : Int) ≥ 224 by omega)]
    simp only [trystref08_next.j1]
    rw [if_neg (by simp), if_neg (show ¬ (b0 : Int) ≥ 240 by omega)]
end
/-- How many bytes the code point at the head has; 0: it is none. -/
def nx (l : List UInt8) : Nat := nxN (Lib.decodeL l)
theorem next_ev (s : ByteArray) (i : Nat) (hi : i < s.size) (hs : s.size ≤ 140737488351232) : Ev (fun k => trystref08_next.f k s i) ((nx (s.data.toList.drop i) : Nat) : Int) := by
  have A : At s i (s.data.toList.getD i 0).toNat (s.data.toList.getD (i + 1) 0).toNat (s.data.toList.getD (i + 2) 0).toNat (s.data.toList.getD (i + 3) 0).toNat :=
    ⟨lt256 _ _, lt256 _ _, lt256 _ _, lt256 _ _, hi, hs, bt_nat s i, bt_nat s (i + 1), bt_nat s (i + 2), bt_nat s (i + 3), wrap_nat i 1 (by omega), wrap_nat i 2 (by omega), wrap_nat i 3 (by omega), wrap_nat i 4 (by omega)⟩
  have hd : nx (s.data.toList.drop i) = refN (s.size - i) (s.data.toList.getD i 0).toNat (s.data.toList.getD (i + 1) 0).toNat (s.data.toList.getD (i + 2) 0).toNat (s.data.toList.getD (i + 3) 0).toNat := by
    rw [refN_eq _ _ _ _ _ (by omega) A.h0 A.h1 A.h2 A.h3]
    unfold nx
    rw [Lib.decodeL_N, List.length_drop, Lib.getD_dropU, Lib.getD_dropU, Lib.getD_dropU, Lib.getD_dropU]
    simp
  rw [hd]
  unfold refN
  generalize (s.data.toList.getD i 0).toNat = b0 at *
  generalize (s.data.toList.getD (i + 1) 0).toNat = b1 at *
  generalize (s.data.toList.getD (i + 2) 0).toNat = b2 at *
  generalize (s.data.toList.getD (i + 3) 0).toNat = b3 at *
  have M := fun k => trystref08_next.mono s i k
  by_cases c0 : b0 < 128
  · rw [if_pos c0]; exact Ev.of M (next_1 A c0)
  rw [if_neg c0]
  by_cases c1 : 194 ≤ b0 ∧ b0 < 224
  · rw [if_pos c1]; exact Ev.of M (next_2 A c1)
  rw [if_neg c1]
  by_cases c2 : 224 ≤ b0 ∧ b0 < 240
  · rw [if_pos c2]; exact Ev.of M (next_3 A c2)
  rw [if_neg c2]
  by_cases c3 : 240 ≤ b0 ∧ b0 < 245
  · rw [if_pos c3]; exact Ev.of M (next_4 A c3)
  rw [if_neg c3]; exact Ev.of M (next_0 A c0 c1 c2 c3)
theorem decL_pos (l : List UInt8) (hne : l ≠ []) : 1 ≤ (Lib.decodeL l).2 := by
  unfold Lib.decodeL
  refine Lib.decode_width_pos _ 0 ?_
  show 0 < l.toArray.size
  rw [List.size_toArray]
  exact List.length_pos_iff.2 hne
theorem nx_bad (l : List UInt8) (hne : l ≠ []) : nx l = 0 ↔ (Lib.decodeL l).1 = 65533 ∧ (Lib.decodeL l).2 = 1 := by
  have h1 := decL_pos l hne
  unfold nx nxN
  constructor
  · intro h
    split at h
    · rename_i h2; rw [h2]; exact ⟨rfl, rfl⟩
    · omega
  · rintro ⟨h2, h3⟩
    rw [if_pos (by cases hd : Lib.decodeL l; rw [hd] at h2 h3; simp at h2 h3; rw [h2, h3])]
theorem nx_good (l : List UInt8) (h : ¬ ((Lib.decodeL l).1 = 65533 ∧ (Lib.decodeL l).2 = 1)) : nx l = (Lib.decodeL l).2 := by
  unfold nx nxN
  rw [if_neg (fun e => h (by rw [e]; exact ⟨rfl, rfl⟩))]
theorem UTF_ev (s : ByteArray) (hs : s.size ≤ 140737488351232) : ∀ (n i : Nat), s.size - i ≤ n → i ≤ s.size → Ev (fun k => trystref08_UTF.l0 k s i) (Lib.validD (s.data.toList.drop i))
  | 0, i, h, hi => by
    obtain rfl : i = s.size := by omega
    refine Ev.step (f := fun _ => some true) (fun k => ?_) ?_
    · simp only [trystref08_UTF.l0]; rw [if_neg (by omega)]
    · rw [List.drop_of_length_le (by simp)]; exact Ev.now true
  | n + 1, i, h, hi => by
    by_cases hlt : i < s.size
    · have hne : s.data.toList.drop i ≠ [] := by
        intro e; have := congrArg List.length e; simp at this; omega
      have hn := next_ev s i hlt hs
      have hle := Lib.decodeL_le (s.data.toList.drop i) hne
      have hpos := decL_pos _ hne
      rw [List.length_drop] at hle
      have hsz : s.data.toList.length = s.size := by simp
      rw [Lib.validD_step _ hne]
      refine Ev.step (f := fun k => (trystref08_next.f k s i).bind fun t => if t = 0 then some false else trystref08_UTF.l0 k s (wrap64 ((i : Int) + t))) (fun k => ?_) ?_
      · simp only [trystref08_UTF.l0]; rw [if_pos (by omega)]
      · refine Ev.bind hn ?_
        by_cases hbad : (Lib.decodeL (s.data.toList.drop i)).1 = 65533 ∧ (Lib.decodeL (s.data.toList.drop i)).2 = 1
        · rw [if_pos hbad, (nx_bad _ hne).2 hbad]
          simp only [Int.natCast_zero, if_true]
          exact Ev.now false
        · rw [if_neg hbad, nx_good _ hbad, List.drop_drop]
          simp only [if_neg (show ¬ (((Lib.decodeL (s.data.toList.drop i)).2 : Nat) : Int) = 0 by omega)]
          rw [wrap_nat i _ (by omega)]
          exact UTF_ev s hs n _ (by omega) (by omega)
    · obtain rfl : i = s.size := by omega
      refine Ev.step (f := fun _ => some true) (fun k => ?_) ?_
      · simp only [trystref08_UTF.l0]; rw [if_neg (by omega)]
      · rw [List.drop_of_length_le (by simp)]; exact Ev.now true
theorem UTF_all (s : ByteArray) (hs : s.size ≤ 140737488351232) : Ev (fun k => trystref08_UTF.f k s) (Lib.validD s.data.toList) := by
  have := UTF_ev s hs s.size 0 (by omega) (by omega)
  exact this
theorem drop_at (s : ByteArray) (k : Nat) (h : k < s.size) : s.data.toList.drop k = s.data.toList.getD k 0 :: s.data.toList.drop (k + 1) := by
  rw [List.drop_eq_getElem_cons (by simpa using h)]
  rw [List.getD_eq_getElem?_getD, List.getElem?_eq_getElem (by simpa using h)]; rfl
theorem ne_nat (c : UInt8) (n : Nat) (hn : n < 256) (h : c ≠ n.toUInt8) : ¬ (c.toNat : Int) = (n : Int) :=
  fun e => h (by apply UInt8.toNat_inj.1; have : c.toNat = n := by omega
                 rw [this]; simp; omega)
end Go.Proofs.YtknmbalhbecdhaaGreatDoor.Pure
end
section
namespace Go.Proofs.YtknmbalhbecdhaaGreatDoor.Print
open Go.RowKit Go.Proofs.YtknmbalhbecdhaaGreatDoorW.PrintWords Go.Proofs.YtknmbalhbecdhaaGreatDoorW.PrintLast
set_option linter.unusedVariables false
set_option linter.unusedSimpArgs false
def escape_control.f (a0 : Int) (a1 : Bool) : Option (Bool) := if a0 = 9 then (some false) else (if a0 = 10 then (some (!a1)) else (if a0 < 32 then (some true) else (some (a0 == 127))))
set_option maxHeartbeats 8000000 in
set_option maxRecDepth 100000 in
theorem escape_control.calls (a0 : Int) (a1 : Bool) (r : Bool) (w : World) (hG : GG w) (h : escape_control.f a0 a1 = some r) :
  Calls Tryz.prog 44 #[.int .u8 a0, .bool a1] w fun e w' => e = .returned (.bool r) ∧ Drawn0 w w' := by
 have H : (if a0 = 9 then (some false) else (if a0 = 10 then (some (!a1)) else (if a0 < 32 then (some true) else (some (a0 == 127))))) = some r := h
 clear h
 by_cases c3 : a0 = 9
 ·rw [if_pos c3] at H
  have c3b0 : (a0 == 9) = true := beq_iff_eq.mpr c3
  have c3b1 : (a0 != 9) = false := bne_eq_false_iff_eq.mpr c3
  clear c3
  obtain rfl := Option.some.inj H
  go_enter Tryz.func44, Tryz.ntmps44
  go_wp2
  go_ret
  exact ⟨by first | rfl | (simp; done) | (simp [bne_nil_isEmpty, beq_nil_isEmpty]; done) | (simp [*]; done), by repeat (first | exact Drawn0.refl _ | apply Drawn0.step)⟩
 ·rw [if_neg c3] at H
  have c3b0 : (a0 == 9) = false := beq_eq_false_iff_ne.mpr c3
  have c3b1 : (a0 != 9) = true := bne_iff_ne.mpr c3
  by_cases c4 : a0 = 10
  ·rw [if_pos c4] at H
   have c4b0 : (a0 == 10) = true := beq_iff_eq.mpr c4
   have c4b1 : (a0 != 10) = false := bne_eq_false_iff_eq.mpr c4
   clear c4
   obtain rfl := Option.some.inj H
   go_enter Tryz.func44, Tryz.ntmps44
   go_wp2
   go_ret
   exact ⟨by first | rfl | (simp; done) | (simp [bne_nil_isEmpty, beq_nil_isEmpty]; done) | (simp [*]; done), by repeat (first | exact Drawn0.refl _ | apply Drawn0.step)⟩
  ·rw [if_neg c4] at H
   have c4b0 : (a0 == 10) = false := beq_eq_false_iff_ne.mpr c4
   have c4b1 : (a0 != 10) = true := bne_iff_ne.mpr c4
   by_cases c5 : a0 < 32
   ·rw [if_pos c5] at H
    have c5b0 : decide (a0 < 32) = true := decide_eq_true c5
    clear c5
    obtain rfl := Option.some.inj H
    go_enter Tryz.func44, Tryz.ntmps44
    go_wp2
    go_ret
    exact ⟨by first | rfl | (simp; done) | (simp [bne_nil_isEmpty, beq_nil_isEmpty]; done) | (simp [*]; done), by repeat (first | exact Drawn0.refl _ | apply Drawn0.step)⟩
   ·rw [if_neg c5] at H
    have c5b0 : decide (a0 < 32) = false := decide_eq_false c5
    clear c5
    obtain rfl := Option.some.inj H
    go_enter Tryz.func44, Tryz.ntmps44
    go_wp2
    go_ret
    exact ⟨by first | rfl | (simp; done) | (simp [bne_nil_isEmpty, beq_nil_isEmpty]; done) | (simp [*]; done), by repeat (first | exact Drawn0.refl _ | apply Drawn0.step)⟩
def escape_Clean.l0 : Nat → ByteArray → Bool → Int → Int → Option (Int)
 | 0, _, _, _, _ => none
 | k + 1, x0, x1, x10, x11 => if x11 < x10 then (if 0 ≤ x11 then (if x11 < (x0.size : Int) then ((escape_control.f (bt x0 x11) x1).bind fun t102 => (if t102 = true then (some 7) else (escape_Clean.l0 k x0 x1 x10 (wrap64 (x11 + 1))))) else (none)) else (none)) else (some 0)
def escape_Clean.f (k : Nat) (a0 : ByteArray) (a1 : Bool) : Option (Int) := (utf8_ValidString.f a0).bind fun t101 => (if t101 = true then (escape_Clean.l0 k a0 a1 (a0.size : Int) 0) else (some 3))
theorem escape_Clean.mono_l : ∀ k, (∀ y0 y1 y2 y3, LeO (escape_Clean.l0 k y0 y1 y2 y3) (escape_Clean.l0 (k + 1) y0 y1 y2 y3))
 | 0 => fun _ _ _ _ r h => by simp [escape_Clean.l0] at h
 | k + 1 => by
  have ih0 := escape_Clean.mono_l k
  ·intro y0 y1 y2 y3
   unfold escape_Clean.l0
   repeat' first
   | (with_reducible exact ih0 _ _ _ _)
   | (with_reducible exact LeO.refl _)
   | (with_reducible exact LeO.none _)
   | (with_reducible refine LeO.ite ?_ ?_)
   | (with_reducible refine LeO.bind ?_ (fun _ => ?_))
   | exact ih0 _ _ _ _
   | exact LeO.none _
   | refine LeO.ite ?_ ?_
   | refine LeO.bind ?_ (fun _ => ?_)
theorem escape_Clean.mono : ∀ a0 a1 k, LeO (escape_Clean.f k a0 a1) (escape_Clean.f (k + 1) a0 a1) := by
 intro a0 a1 k
 have ih0 := escape_Clean.mono_l k
 unfold escape_Clean.f
 repeat' first
   | (with_reducible exact ih0 _ _ _ _)
   | (with_reducible exact LeO.refl _)
   | (with_reducible exact LeO.none _)
   | (with_reducible refine LeO.ite ?_ ?_)
   | (with_reducible refine LeO.bind ?_ (fun _ => ?_))
   | exact ih0 _ _ _ _
   | exact LeO.none _
   | refine LeO.ite ?_ ?_
   | refine LeO.bind ?_ (fun _ => ?_)
set_option maxHeartbeats 8000000 in
set_option maxRecDepth 100000 in
theorem escape_Clean.calls (k : Nat) (a0 : ByteArray) (a1 : Bool) (r : Int) (w : World) (hG : GG w) (h : escape_Clean.f k a0 a1 = some r) :
  Calls Tryz.prog 25 #[.string a0, .bool a1] w fun e w' => e = .returned (.int .i64 r) ∧ Below w.heap.size w w' := by
 have HB := Aside0.mk (Below.refl w.heap.size w)
 have H : ((utf8_ValidString.f a0).bind fun t101 => (if t101 = true then (escape_Clean.l0 k a0 a1 (a0.size : Int) 0) else (some 3))) = some r := h
 clear h
 replace H := Option.bind_eq_some_iff.mp H
 obtain ⟨t101, A30, H⟩ := H
 replace H : (if t101 = true then (escape_Clean.l0 k a0 a1 (a0.size : Int) 0) else (some 3)) = some r := H
 have A3 := Aside0.mk A30
 clear A30
 by_cases c4 : t101 = true
 ·subst c4
  rw [if_pos rfl] at H
  have H' := Aside0.mk H
  clear H
  go_enter Tryz.func25, Tryz.ntmps25
  go_wp2_with (first | ((with_reducible refine gate_callee (f := 31) rfl ?_); refine goesL_ (some 7) rfl rfl Tryz.func31 (by kernel_rfl) rfl #[.string a0] rfl (by (try simp only [List.map_toArray, List.map_cons, List.map_nil]); first | done | rfl | (simp only [List.length_drop, List.length_take]; rfl)) ?_; (with_reducible refine (utf8_ValidString.calls a0 true _ (by first | (with_reducible exact hG) | exact GG.below hG (by repeat (first | (with_reducible first | exact HB.out | apply below_alloc | apply pw_below_drewN | apply below_drew1) | exact HB.out))) A3.out).mono ?_); rintro e w5 ⟨rfl, hb⟩; refine ⟨_, rfl, ?_⟩; have n0_ := Aside0.mk (below_step (by repeat (first | (with_reducible first | exact HB.out | apply below_alloc | apply pw_below_drewN | apply below_drew1) | exact HB.out)) hb); clear HB; have HB := n0_; clear n0_; (try clear hb); (try clear hb2); (try clear hk); (try clear hi)))
  go_loopg [11] k (fun kq v11 w' => ∃ (x11_1 : Int), v11 = .int .i64 x11_1 ∧ Aside0 (escape_Clean.l0 kq a0 a1 (a0.size : Int) x11_1 = some r) ∧ Aside0 (kq ≤ k) ∧ Aside0 (Below w.heap.size w w'))
  case atStart => exact ⟨(0), (by first | rfl | (simp; done) | (simp [bne_nil_isEmpty, beq_nil_isEmpty]; done) | (simp [*]; done)), H', ⟨Nat.le_refl _⟩, ⟨by repeat (first | (with_reducible first | exact HB.out | apply below_alloc | apply pw_below_drewN | apply below_drew1) | exact HB.out)⟩⟩
  case round =>
   clear H'
   try clear c2
   try clear p2
   try clear c3
   try clear c4
   obtain ⟨x11_1, rfl, HA, HK1, HB⟩ := hrel
   cases gk with
   | zero => exact absurd HA.out (by simp [escape_Clean.l0])
   | succ k1 =>
    have H := HA.out
    clear HA
    simp only [escape_Clean.l0] at H
    by_cases c6 : x11_1 < (a0.size : Int)
    ·rw [if_pos c6] at H
     have c6b0 : decide (x11_1 < (a0.size : Int)) = true := decide_eq_true c6
     clear c6
     by_cases c7 : 0 ≤ x11_1
     ·rw [if_pos c7] at H
      have c7b0 : decide (0 ≤ x11_1) = true := decide_eq_true c7
      clear c7
      by_cases c8 : x11_1 < (a0.size : Int)
      ·rw [if_pos c8] at H
       have c8b0 : decide (x11_1 < (a0.size : Int)) = true := decide_eq_true c8
       clear c8
       replace H := Option.bind_eq_some_iff.mp H
       obtain ⟨t102, A100, H⟩ := H
       replace H : (if t102 = true then (some 7) else (escape_Clean.l0 k1 a0 a1 (a0.size : Int) (wrap64 (x11_1 + 1)))) = some r := H
       have A10 := Aside0.mk A100
       clear A100
       by_cases c11 : t102 = true
       ·subst c11
        rw [if_pos rfl] at H
        obtain rfl := Option.some.inj H
        have p9 : 0 ≤ (x11_1 : Int) := of_decide_eq_true (by first | (with_reducible assumption) | assumption)
        have q9 : x11_1 < (a0.size : Int) := of_decide_eq_true (by first | (with_reducible assumption) | assumption)
        have hx9 := bt_at a0 x11_1
        replace p9 := eq_true p9
        replace q9 := eq_true q9
        go_wp2_with (first | ((with_reducible refine gate_callee (f := 44) rfl ?_); refine goesL_ (some 18) rfl rfl Tryz.func44 (by kernel_rfl) rfl #[.int .u8 (bt a0 x11_1), .bool a1] rfl (by (try simp only [List.map_toArray, List.map_cons, List.map_nil]); first | done | rfl | (simp only [List.length_drop, List.length_take]; rfl)) ?_; (with_reducible refine (escape_control.calls (bt a0 x11_1) a1 true _ (by first | (with_reducible exact hG) | exact GG.below hG (by repeat (first | (with_reducible first | exact HB.out | apply below_alloc | apply pw_below_drewN | apply below_drew1) | exact HB.out))) A10.out).mono ?_); rintro e w' ⟨rfl, ⟨nd, rfl⟩⟩; refine ⟨_, rfl, ?_⟩))
        go_ret
        exact ⟨by first | rfl | (simp [errW_none, errW_some] <;> rfl) | (simp [*, errW_none, errW_some] <;> rfl), by repeat (first | (with_reducible first | exact HB.out | apply below_alloc | apply pw_below_drewN | apply below_drew1) | exact HB.out)⟩
       ·replace c11 := Bool.eq_false_iff.mpr c11
        subst c11
        rw [if_neg (show ¬ (false = true) by decide)] at H
        have H' := Aside0.mk H
        clear H
        have p9 : 0 ≤ (x11_1 : Int) := of_decide_eq_true (by first | (with_reducible assumption) | assumption)
        have q9 : x11_1 < (a0.size : Int) := of_decide_eq_true (by first | (with_reducible assumption) | assumption)
        have hx9 := bt_at a0 x11_1
        replace p9 := eq_true p9
        replace q9 := eq_true q9
        go_wp2_with (first | ((with_reducible refine gate_callee (f := 44) rfl ?_); refine goesL_ (some 18) rfl rfl Tryz.func44 (by kernel_rfl) rfl #[.int .u8 (bt a0 x11_1), .bool a1] rfl (by (try simp only [List.map_toArray, List.map_cons, List.map_nil]); first | done | rfl | (simp only [List.length_drop, List.length_take]; rfl)) ?_; (with_reducible refine (escape_control.calls (bt a0 x11_1) a1 false _ (by first | (with_reducible exact hG) | exact GG.below hG (by repeat (first | (with_reducible first | exact HB.out | apply below_alloc | apply pw_below_drewN | apply below_drew1) | exact HB.out))) A10.out).mono ?_); rintro e w' ⟨rfl, ⟨nd, rfl⟩⟩; refine ⟨_, rfl, ?_⟩))
        go_roundg k1
        case measure => have := HK1.out; omega
        case rel => exact ⟨(wrap64 (x11_1 + 1)), (by first | rfl | (simp; done) | (simp [bne_nil_isEmpty, beq_nil_isEmpty]; done) | (simp [*]; done)), H', ⟨by have := HK1.out; omega⟩, ⟨by repeat (first | (with_reducible first | exact HB.out | apply below_alloc | apply pw_below_drewN | apply below_drew1) | exact HB.out)⟩⟩
      ·rw [if_neg c8] at H
       exact absurd H (by simp)
     ·rw [if_neg c7] at H
      exact absurd H (by simp)
    ·rw [if_neg c6] at H
     have c6b0 : decide (x11_1 < (a0.size : Int)) = false := decide_eq_false c6
     clear c6
     obtain rfl := Option.some.inj H
     go_wp2
     go_ret
     exact ⟨by first | rfl | (simp [errW_none, errW_some] <;> rfl) | (simp [*, errW_none, errW_some] <;> rfl), by repeat (first | (with_reducible first | exact HB.out | apply below_alloc | apply pw_below_drewN | apply below_drew1) | exact HB.out)⟩
 ·replace c4 := Bool.eq_false_iff.mpr c4
  subst c4
  rw [if_neg (show ¬ (false = true) by decide)] at H
  obtain rfl := Option.some.inj H
  go_enter Tryz.func25, Tryz.ntmps25
  go_wp2_with (first | ((with_reducible refine gate_callee (f := 31) rfl ?_); refine goesL_ (some 7) rfl rfl Tryz.func31 (by kernel_rfl) rfl #[.string a0] rfl (by (try simp only [List.map_toArray, List.map_cons, List.map_nil]); first | done | rfl | (simp only [List.length_drop, List.length_take]; rfl)) ?_; (with_reducible refine (utf8_ValidString.calls a0 false _ (by first | (with_reducible exact hG) | exact GG.below hG (by repeat (first | (with_reducible first | exact HB.out | apply below_alloc | apply pw_below_drewN | apply below_drew1) | exact HB.out))) A3.out).mono ?_); rintro e w12 ⟨rfl, hb⟩; refine ⟨_, rfl, ?_⟩; have n0_ := Aside0.mk (below_step (by repeat (first | (with_reducible first | exact HB.out | apply below_alloc | apply pw_below_drewN | apply below_drew1) | exact HB.out)) hb); clear HB; have HB := n0_; clear n0_; (try clear hb); (try clear hb2); (try clear hk); (try clear hi)))
  go_ret
  exact ⟨by first | rfl | (simp [errW_none, errW_some] <;> rfl) | (simp [*, errW_none, errW_some] <;> rfl), by repeat (first | (with_reducible first | exact HB.out | apply below_alloc | apply pw_below_drewN | apply below_drew1) | exact HB.out)⟩
def line_sign.f (a0 : Int) (a1 : Bool) : Option (Bool) := if a0 ≥ 65 then (if a0 ≤ 90 then (some true) else (if a0 ≥ 48 then (if a0 ≤ 57 then (some true) else (if a0 = 45 then (some true) else (if a1 = true then (some false) else (if a0 ≥ 97 then (some (decide (a0 ≤ 122))) else (some false))))) else (if a0 = 45 then (some true) else (if a1 = true then (some false) else (if a0 ≥ 97 then (some (decide (a0 ≤ 122))) else (some false)))))) else (if a0 ≥ 48 then (if a0 ≤ 57 then (some true) else (if a0 = 45 then (some true) else (if a1 = true then (some false) else (if a0 ≥ 97 then (some (decide (a0 ≤ 122))) else (some false))))) else (if a0 = 45 then (some true) else (if a1 = true then (some false) else (if a0 ≥ 97 then (some (decide (a0 ≤ 122))) else (some false)))))
set_option maxHeartbeats 8000000 in
set_option maxRecDepth 100000 in
theorem line_sign.calls (a0 : Int) (a1 : Bool) (r : Bool) (w : World) (hG : GG w) (h : line_sign.f a0 a1 = some r) :
  Calls Tryz.prog 29 #[.int .u8 a0, .bool a1] w fun e w' => e = .returned (.bool r) ∧ Drawn0 w w' := by
 have H : (if a0 ≥ 65 then (if a0 ≤ 90 then (some true) else (if a0 ≥ 48 then (if a0 ≤ 57 then (some true) else (if a0 = 45 then (some true) else (if a1 = true then (some false) else (if a0 ≥ 97 then (some (decide (a0 ≤ 122))) else (some false))))) else (if a0 = 45 then (some true) else (if a1 = true then (some false) else (if a0 ≥ 97 then (some (decide (a0 ≤ 122))) else (some false)))))) else (if a0 ≥ 48 then (if a0 ≤ 57 then (some true) else (if a0 = 45 then (some true) else (if a1 = true then (some false) else (if a0 ≥ 97 then (some (decide (a0 ≤ 122))) else (some false))))) else (if a0 = 45 then (some true) else (if a1 = true then (some false) else (if a0 ≥ 97 then (some (decide (a0 ≤ 122))) else (some false)))))) = some r := h
 clear h
 by_cases c3 : a0 ≥ 65
 ·rw [if_pos c3] at H
  have c3b0 : decide (65 ≤ a0) = true := decide_eq_true c3
  clear c3
  by_cases c4 : a0 ≤ 90
  ·rw [if_pos c4] at H
   have c4b0 : decide (a0 ≤ 90) = true := decide_eq_true c4
   clear c4
   obtain rfl := Option.some.inj H
   go_enter Tryz.func29, Tryz.ntmps29
   go_wp2
   go_ret
   exact ⟨by first | rfl | (simp; done) | (simp [bne_nil_isEmpty, beq_nil_isEmpty]; done) | (simp [*]; done), by repeat (first | exact Drawn0.refl _ | apply Drawn0.step)⟩
  ·rw [if_neg c4] at H
   have c4b0 : decide (a0 ≤ 90) = false := decide_eq_false c4
   clear c4
   by_cases c5 : a0 ≥ 48
   ·rw [if_pos c5] at H
    have c5b0 : decide (48 ≤ a0) = true := decide_eq_true c5
    clear c5
    by_cases c6 : a0 ≤ 57
    ·rw [if_pos c6] at H
     have c6b0 : decide (a0 ≤ 57) = true := decide_eq_true c6
     clear c6
     obtain rfl := Option.some.inj H
     go_enter Tryz.func29, Tryz.ntmps29
     go_wp2
     go_ret
     exact ⟨by first | rfl | (simp; done) | (simp [bne_nil_isEmpty, beq_nil_isEmpty]; done) | (simp [*]; done), by repeat (first | exact Drawn0.refl _ | apply Drawn0.step)⟩
    ·rw [if_neg c6] at H
     have c6b0 : decide (a0 ≤ 57) = false := decide_eq_false c6
     clear c6
     by_cases c7 : a0 = 45
     ·rw [if_pos c7] at H
      have c7b0 : (a0 == 45) = true := beq_iff_eq.mpr c7
      have c7b1 : (a0 != 45) = false := bne_eq_false_iff_eq.mpr c7
      clear c7
      obtain rfl := Option.some.inj H
      go_enter Tryz.func29, Tryz.ntmps29
      go_wp2
      go_ret
      exact ⟨by first | rfl | (simp; done) | (simp [bne_nil_isEmpty, beq_nil_isEmpty]; done) | (simp [*]; done), by repeat (first | exact Drawn0.refl _ | apply Drawn0.step)⟩
     ·rw [if_neg c7] at H
      have c7b0 : (a0 == 45) = false := beq_eq_false_iff_ne.mpr c7
      have c7b1 : (a0 != 45) = true := bne_iff_ne.mpr c7
      by_cases c8 : a1 = true
      ·subst c8
       rw [if_pos rfl] at H
       obtain rfl := Option.some.inj H
       go_enter Tryz.func29, Tryz.ntmps29
       go_wp2
       go_ret
       exact ⟨by first | rfl | (simp; done) | (simp [bne_nil_isEmpty, beq_nil_isEmpty]; done) | (simp [*]; done), by repeat (first | exact Drawn0.refl _ | apply Drawn0.step)⟩
      ·replace c8 := Bool.eq_false_iff.mpr c8
       subst c8
       rw [if_neg (show ¬ (false = true) by decide)] at H
       by_cases c9 : a0 ≥ 97
       ·rw [if_pos c9] at H
        have c9b0 : decide (97 ≤ a0) = true := decide_eq_true c9
        clear c9
        obtain rfl := Option.some.inj H
        go_enter Tryz.func29, Tryz.ntmps29
        go_wp2
        go_ret
        exact ⟨by first | rfl | (simp; done) | (simp [bne_nil_isEmpty, beq_nil_isEmpty]; done) | (simp [*]; done), by repeat (first | exact Drawn0.refl _ | apply Drawn0.step)⟩
       ·rw [if_neg c9] at H
        have c9b0 : decide (97 ≤ a0) = false := decide_eq_false c9
        clear c9
        obtain rfl := Option.some.inj H
        go_enter Tryz.func29, Tryz.ntmps29
        go_wp2
        go_ret
        exact ⟨by first | rfl | (simp; done) | (simp [bne_nil_isEmpty, beq_nil_isEmpty]; done) | (simp [*]; done), by repeat (first | exact Drawn0.refl _ | apply Drawn0.step)⟩
   ·rw [if_neg c5] at H
    have c5b0 : decide (48 ≤ a0) = false := decide_eq_false c5
    clear c5
    by_cases c10 : a0 = 45
    ·rw [if_pos c10] at H
     have c10b0 : (a0 == 45) = true := beq_iff_eq.mpr c10
     have c10b1 : (a0 != 45) = false := bne_eq_false_iff_eq.mpr c10
     clear c10
     obtain rfl := Option.some.inj H
     go_enter Tryz.func29, Tryz.ntmps29
     go_wp2
     go_ret
     exact ⟨by first | rfl | (simp; done) | (simp [bne_nil_isEmpty, beq_nil_isEmpty]; done) | (simp [*]; done), by repeat (first | exact Drawn0.refl _ | apply Drawn0.step)⟩
    ·rw [if_neg c10] at H
     have c10b0 : (a0 == 45) = false := beq_eq_false_iff_ne.mpr c10
     have c10b1 : (a0 != 45) = true := bne_iff_ne.mpr c10
     by_cases c11 : a1 = true
     ·subst c11
      rw [if_pos rfl] at H
      obtain rfl := Option.some.inj H
      go_enter Tryz.func29, Tryz.ntmps29
      go_wp2
      go_ret
      exact ⟨by first | rfl | (simp; done) | (simp [bne_nil_isEmpty, beq_nil_isEmpty]; done) | (simp [*]; done), by repeat (first | exact Drawn0.refl _ | apply Drawn0.step)⟩
     ·replace c11 := Bool.eq_false_iff.mpr c11
      subst c11
      rw [if_neg (show ¬ (false = true) by decide)] at H
      by_cases c12 : a0 ≥ 97
      ·rw [if_pos c12] at H
       have c12b0 : decide (97 ≤ a0) = true := decide_eq_true c12
       clear c12
       obtain rfl := Option.some.inj H
       go_enter Tryz.func29, Tryz.ntmps29
       go_wp2
       go_ret
       exact ⟨by first | rfl | (simp; done) | (simp [bne_nil_isEmpty, beq_nil_isEmpty]; done) | (simp [*]; done), by repeat (first | exact Drawn0.refl _ | apply Drawn0.step)⟩
      ·rw [if_neg c12] at H
       have c12b0 : decide (97 ≤ a0) = false := decide_eq_false c12
       clear c12
       obtain rfl := Option.some.inj H
       go_enter Tryz.func29, Tryz.ntmps29
       go_wp2
       go_ret
       exact ⟨by first | rfl | (simp; done) | (simp [bne_nil_isEmpty, beq_nil_isEmpty]; done) | (simp [*]; done), by repeat (first | exact Drawn0.refl _ | apply Drawn0.step)⟩
 ·rw [if_neg c3] at H
  have c3b0 : decide (65 ≤ a0) = false := decide_eq_false c3
  clear c3
  by_cases c13 : a0 ≥ 48
  ·rw [if_pos c13] at H
   have c13b0 : decide (48 ≤ a0) = true := decide_eq_true c13
   clear c13
   by_cases c14 : a0 ≤ 57
   ·rw [if_pos c14] at H
    have c14b0 : decide (a0 ≤ 57) = true := decide_eq_true c14
    clear c14
    obtain rfl := Option.some.inj H
    go_enter Tryz.func29, Tryz.ntmps29
    go_wp2
    go_ret
    exact ⟨by first | rfl | (simp; done) | (simp [bne_nil_isEmpty, beq_nil_isEmpty]; done) | (simp [*]; done), by repeat (first | exact Drawn0.refl _ | apply Drawn0.step)⟩
   ·rw [if_neg c14] at H
    have c14b0 : decide (a0 ≤ 57) = false := decide_eq_false c14
    clear c14
    by_cases c15 : a0 = 45
    ·rw [if_pos c15] at H
     have c15b0 : (a0 == 45) = true := beq_iff_eq.mpr c15
     have c15b1 : (a0 != 45) = false := bne_eq_false_iff_eq.mpr c15
     clear c15
     obtain rfl := Option.some.inj H
     go_enter Tryz.func29, Tryz.ntmps29
     go_wp2
     go_ret
     exact ⟨by first | rfl | (simp; done) | (simp [bne_nil_isEmpty, beq_nil_isEmpty]; done) | (simp [*]; done), by repeat (first | exact Drawn0.refl _ | apply Drawn0.step)⟩
    ·rw [if_neg c15] at H
     have c15b0 : (a0 == 45) = false := beq_eq_false_iff_ne.mpr c15
     have c15b1 : (a0 != 45) = true := bne_iff_ne.mpr c15
     by_cases c16 : a1 = true
     ·subst c16
      rw [if_pos rfl] at H
      obtain rfl := Option.some.inj H
      go_enter Tryz.func29, Tryz.ntmps29
      go_wp2
      go_ret
      exact ⟨by first | rfl | (simp; done) | (simp [bne_nil_isEmpty, beq_nil_isEmpty]; done) | (simp [*]; done), by repeat (first | exact Drawn0.refl _ | apply Drawn0.step)⟩
     ·replace c16 := Bool.eq_false_iff.mpr c16
      subst c16
      rw [if_neg (show ¬ (false = true) by decide)] at H
      by_cases c17 : a0 ≥ 97
      ·rw [if_pos c17] at H
       have c17b0 : decide (97 ≤ a0) = true := decide_eq_true c17
       clear c17
       obtain rfl := Option.some.inj H
       go_enter Tryz.func29, Tryz.ntmps29
       go_wp2
       go_ret
       exact ⟨by first | rfl | (simp; done) | (simp [bne_nil_isEmpty, beq_nil_isEmpty]; done) | (simp [*]; done), by repeat (first | exact Drawn0.refl _ | apply Drawn0.step)⟩
      ·rw [if_neg c17] at H
       have c17b0 : decide (97 ≤ a0) = false := decide_eq_false c17
       clear c17
       obtain rfl := Option.some.inj H
       go_enter Tryz.func29, Tryz.ntmps29
       go_wp2
       go_ret
       exact ⟨by first | rfl | (simp; done) | (simp [bne_nil_isEmpty, beq_nil_isEmpty]; done) | (simp [*]; done), by repeat (first | exact Drawn0.refl _ | apply Drawn0.step)⟩
  ·rw [if_neg c13] at H
   have c13b0 : decide (48 ≤ a0) = false := decide_eq_false c13
   clear c13
   by_cases c18 : a0 = 45
   ·rw [if_pos c18] at H
    have c18b0 : (a0 == 45) = true := beq_iff_eq.mpr c18
    have c18b1 : (a0 != 45) = false := bne_eq_false_iff_eq.mpr c18
    clear c18
    obtain rfl := Option.some.inj H
    go_enter Tryz.func29, Tryz.ntmps29
    go_wp2
    go_ret
    exact ⟨by first | rfl | (simp; done) | (simp [bne_nil_isEmpty, beq_nil_isEmpty]; done) | (simp [*]; done), by repeat (first | exact Drawn0.refl _ | apply Drawn0.step)⟩
   ·rw [if_neg c18] at H
    have c18b0 : (a0 == 45) = false := beq_eq_false_iff_ne.mpr c18
    have c18b1 : (a0 != 45) = true := bne_iff_ne.mpr c18
    by_cases c19 : a1 = true
    ·subst c19
     rw [if_pos rfl] at H
     obtain rfl := Option.some.inj H
     go_enter Tryz.func29, Tryz.ntmps29
     go_wp2
     go_ret
     exact ⟨by first | rfl | (simp; done) | (simp [bne_nil_isEmpty, beq_nil_isEmpty]; done) | (simp [*]; done), by repeat (first | exact Drawn0.refl _ | apply Drawn0.step)⟩
    ·replace c19 := Bool.eq_false_iff.mpr c19
     subst c19
     rw [if_neg (show ¬ (false = true) by decide)] at H
     by_cases c20 : a0 ≥ 97
     ·rw [if_pos c20] at H
      have c20b0 : decide (97 ≤ a0) = true := decide_eq_true c20
      clear c20
      obtain rfl := Option.some.inj H
      go_enter Tryz.func29, Tryz.ntmps29
      go_wp2
      go_ret
      exact ⟨by first | rfl | (simp; done) | (simp [bne_nil_isEmpty, beq_nil_isEmpty]; done) | (simp [*]; done), by repeat (first | exact Drawn0.refl _ | apply Drawn0.step)⟩
     ·rw [if_neg c20] at H
      have c20b0 : decide (97 ≤ a0) = false := decide_eq_false c20
      clear c20
      obtain rfl := Option.some.inj H
      go_enter Tryz.func29, Tryz.ntmps29
      go_wp2
      go_ret
      exact ⟨by first | rfl | (simp; done) | (simp [bne_nil_isEmpty, beq_nil_isEmpty]; done) | (simp [*]; done), by repeat (first | exact Drawn0.refl _ | apply Drawn0.step)⟩
/-- A state of type 63 at block g of W; what its slices lead to came in by w0. -/
def IsS63 (w0 W : World) (g : Nat) (f0 : ByteArray) (f1 : Int) (f2 : Int) : Prop := W.heap[g]? = some (.cells #[.string f0, .int .i64 f1, .int .i64 f2] 63 (0, 0)) ∧ w0.heap.size ≤ g
theorem IsS63.grown {w0 W : World} {g : Nat} {f0 : ByteArray} {f1 : Int} {f2 : Int} {W1 : World} {row : Option Nat} (h : IsS63 w0 W g f0 f1 f2) (hw : W.grownBy W1 row) (hne : some g ≠ row) : IsS63 w0 W1 g f0 f1 f2 := by
 obtain ⟨hb, hg⟩ := h
 exact ⟨blk_grown hb hw hne, hg⟩
theorem IsS63.kept {w0 W : World} {g : Nat} {f0 : ByteArray} {f1 : Int} {f2 : Int} {W1 : World} {S : Nat → Prop} (h : IsS63 w0 W g f0 f1 f2) (hk : Kept W W1 S) (hne : ¬ S g) : IsS63 w0 W1 g f0 f1 f2 := by
 obtain ⟨hb, hg⟩ := h
 exact ⟨blk_kept hb hk hne, hg⟩
theorem IsS63.below {w0 W : World} {g : Nat} {f0 : ByteArray} {f1 : Int} {f2 : Int} {W1 : World} (h : IsS63 w0 W g f0 f1 f2) (hw : Below W.heap.size W W1) : IsS63 w0 W1 g f0 f1 f2 := h.grown (grown_of_below hw none) (by simp)
theorem IsS63.alloc {w0 W : World} {g : Nat} {f0 : ByteArray} {f1 : Int} {f2 : Int} (h : IsS63 w0 W g f0 f1 f2) (o : Obj) : IsS63 w0 (W.alloc o) g f0 f1 f2 := h.below (below_alloc (Below.refl _ _) o)
theorem IsS63.drewN {w0 W : World} {g : Nat} {f0 : ByteArray} {f1 : Int} {f2 : Int} (h : IsS63 w0 W g f0 f1 f2) (m : Nat) : IsS63 w0 (W.drewN m) g f0 f1 f2 := h
theorem IsS63.drew {w0 W : World} {g : Nat} {f0 : ByteArray} {f1 : Int} {f2 : Int} (h : IsS63 w0 W g f0 f1 f2) : IsS63 w0 W.drew g f0 f1 f2 := h
theorem IsS63.apart {w0 W : World} {g : Nat} {f0 : ByteArray} {f1 : Int} {f2 : Int} {α : Type} {d : Kd α} {e : Nat} {base : Nat} {ok : Nat → Prop} {v : Value} {xs : List α} (h : IsS63 w0 W g f0 f1 f2) (ho : d.R e W base ok v xs) (ht : ∀ q, q ∈ e :: d.E → q ≠ 63) : d.R e W base (fun k => ok k ∧ k ≠ g) v xs := by
 obtain ⟨hb, hg⟩ := h
 exact Kd.R_types ho hb ht
theorem IsS63.own_ne {w0 W : World} {g : Nat} {f0 : ByteArray} {f1 : Int} {f2 : Int} {α : Type} {d : Kd α} {e : Nat} {base : Nat} {ok : Nat → Prop} {v : Value} {xs : List α} (h : IsS63 w0 W g f0 f1 f2) (ho : d.R e W base ok v xs) (ht : e ≠ 63) : some g ≠ v.ownBlock := by
 obtain ⟨hb, hg⟩ := h
 exact Kd.R_ne ho hb ht
theorem IsS63.lt {w0 W : World} {g : Nat} {f0 : ByteArray} {f1 : Int} {f2 : Int} (h : IsS63 w0 W g f0 f1 f2) : g < W.heap.size := by
 obtain ⟨hb, hg⟩ := h
 exact blk_lt hb
theorem IsS63.ge {w0 W : World} {g : Nat} {f0 : ByteArray} {f1 : Int} {f2 : Int} (h : IsS63 w0 W g f0 f1 f2) : w0.heap.size ≤ g := by
 obtain ⟨hb, hg⟩ := h
 exact hg
theorem IsS63.far {w0 W : World} {g : Nat} {f0 : ByteArray} {f1 : Int} {f2 : Int} {p : Addr} (h : IsS63 w0 W g f0 f1 f2) (hne : g ≠ p.block) (u : Value) : IsS63 w0 (W.setCell p u) g f0 f1 f2 := by
 obtain ⟨hb, hg⟩ := h
 exact ⟨blk_far hb hne u, hg⟩
theorem cellS63_0 {W : World} {g : Nat} {f0 : ByteArray} {f1 : Int} {f2 : Int} (h : W.heap[g]? = some (.cells #[.string f0, .int .i64 f1, .int .i64 f2] 63 (0, 0))) : W.cell? ⟨g, 0, none⟩ = some (.string f0) := (blk_cell h 0).trans rfl
theorem IsS63.set_0 {w0 W : World} {g : Nat} {f0 : ByteArray} {f1 : Int} {f2 : Int} (h : IsS63 w0 W g f0 f1 f2) (x : ByteArray) : IsS63 w0 (W.setCell ⟨g, 0, none⟩ (.string x)) g x f1 f2 := by
 obtain ⟨hb, hg⟩ := h
 exact ⟨by simpa using blk_set hb 0 (.string x), hg⟩
theorem cellS63_1 {W : World} {g : Nat} {f0 : ByteArray} {f1 : Int} {f2 : Int} (h : W.heap[g]? = some (.cells #[.string f0, .int .i64 f1, .int .i64 f2] 63 (0, 0))) : W.cell? ⟨g, 1, none⟩ = some (.int .i64 f1) := (blk_cell h 1).trans rfl
theorem IsS63.set_1 {w0 W : World} {g : Nat} {f0 : ByteArray} {f1 : Int} {f2 : Int} (h : IsS63 w0 W g f0 f1 f2) (x : Int) : IsS63 w0 (W.setCell ⟨g, 1, none⟩ (.int .i64 x)) g f0 x f2 := by
 obtain ⟨hb, hg⟩ := h
 exact ⟨by simpa using blk_set hb 1 (.int .i64 x), hg⟩
theorem cellS63_2 {W : World} {g : Nat} {f0 : ByteArray} {f1 : Int} {f2 : Int} (h : W.heap[g]? = some (.cells #[.string f0, .int .i64 f1, .int .i64 f2] 63 (0, 0))) : W.cell? ⟨g, 2, none⟩ = some (.int .i64 f2) := (blk_cell h 2).trans rfl
theorem IsS63.set_2 {w0 W : World} {g : Nat} {f0 : ByteArray} {f1 : Int} {f2 : Int} (h : IsS63 w0 W g f0 f1 f2) (x : Int) : IsS63 w0 (W.setCell ⟨g, 2, none⟩ (.int .i64 x)) g f0 f1 x := by
 obtain ⟨hb, hg⟩ := h
 exact ⟨by simpa using blk_set hb 2 (.int .i64 x), hg⟩
theorem IsS63.new (w0 W : World) (f0 : ByteArray) (f1 : Int) (f2 : Int) (hB : Below w0.heap.size w0 W) : IsS63 w0 (W.alloc (.cells #[.string f0, .int .i64 f1, .int .i64 f2] 63)) W.heap.size f0 f1 f2 := ⟨by simpa using heap_alloc_new W _, hB.size⟩
def line_reader_wrong.f (s0_0 : ByteArray) (s0_1 : Int) (s0_2 : Int) (a1 : Int) (a2 : Int) : Option (ByteArray × Int × Int) := if s0_2 = 0 then (some (s0_0, a2, a1)) else (some (s0_0, s0_1, s0_2))
set_option maxHeartbeats 8000000 in
set_option maxRecDepth 100000 in
theorem line_reader_wrong.calls (g : Nat) (s0_0 : ByteArray) (s0_1 : Int) (s0_2 : Int) (a1 : Int) (a2 : Int) (r1 : ByteArray) (r2 : Int) (r3 : Int) (w0 w : World) (hG : GG w0) (hI : IsS63 w0 w g s0_0 s0_1 s0_2) (hB : Below w0.heap.size w0 w) (h : line_reader_wrong.f s0_0 s0_1 s0_2 a1 a2 = some (r1, r2, r3)) :
  Calls Tryz.prog 35 #[.pointer (some ⟨g, 0, none⟩), .int .i64 a1, .int .i64 a2] w fun e w' => e = .returned (.tuple #[]) ∧ IsS63 w0 w' g r1 r2 r3 ∧ Below w0.heap.size w0 w' ∧ KeepBut w w' g none := by
 have HI0 := Aside0.mk hI
 have HK := Aside0.mk (KeepBut.refl w g none)
 have HL := Aside0.mk hB.size
 clear hI
 have HW0 := Aside0.mk hB.size
 have HB := Aside0.mk hB
 clear hB
 have H : (if s0_2 = 0 then (some (s0_0, a2, a1)) else (some (s0_0, s0_1, s0_2))) = some (r1, r2, r3) := h
 clear h
 by_cases c4 : s0_2 = 0
 ·rw [if_pos c4] at H
  have c4b0 : (s0_2 == 0) = true := beq_iff_eq.mpr c4
  have c4b1 : (s0_2 != 0) = false := bne_eq_false_iff_eq.mpr c4
  clear c4
  simp only [Option.some.injEq, Prod.mk.injEq] at H
  obtain ⟨rfl, rfl, rfl⟩ := H
  obtain ⟨HGz5, hgz5⟩ := HI0.out
  have hcz5_0 := cellS63_0 HGz5
  have hcz5_1 := cellS63_1 HGz5
  have hcz5_2 := cellS63_2 HGz5
  have hfz5_0 := blk_frozen HGz5 0
  have hfz5_1 := blk_frozen HGz5 1
  have hfz5_2 := blk_frozen HGz5 2
  clear HGz5 hgz5
  go_enter Tryz.func35, Tryz.ntmps35
  go_wp2
  first | go_end0 | ((try simp only [Exit.inBlock, Exit.then]); refine bodyPost_ret (results_none rfl _ _ _) rfl ?_)
  exact ⟨by first | rfl | (simp [errW_none, errW_some] <;> rfl) | (simp [*, errW_none, errW_some] <;> rfl), by repeat (first | (with_reducible first | exact HI0.out | apply IsS63.alloc | apply IsS63.drewN | apply IsS63.drew | apply IsS63.set_0 | apply IsS63.set_1 | apply IsS63.set_2) | exact HI0.out), by repeat (first | (with_reducible first | exact HB.out | apply below_alloc | apply pw_below_drewN | apply below_drew1 | refine below_set ?_ (IsS63.ge HI0.out)) | exact HB.out), by repeat (first | (with_reducible first | exact HK.out | apply KeepBut.set_ | apply keep_drewN | apply keep_drew | apply keep_alloc) | exact HK.out)⟩
 ·rw [if_neg c4] at H
  have c4b0 : (s0_2 == 0) = false := beq_eq_false_iff_ne.mpr c4
  have c4b1 : (s0_2 != 0) = true := bne_iff_ne.mpr c4
  simp only [Option.some.injEq, Prod.mk.injEq] at H
  obtain ⟨rfl, rfl, rfl⟩ := H
  obtain ⟨HGz6, hgz6⟩ := HI0.out
  have hcz6_0 := cellS63_0 HGz6
  have hcz6_1 := cellS63_1 HGz6
  have hcz6_2 := cellS63_2 HGz6
  have hfz6_0 := blk_frozen HGz6 0
  have hfz6_1 := blk_frozen HGz6 1
  have hfz6_2 := blk_frozen HGz6 2
  clear HGz6 hgz6
  go_enter Tryz.func35, Tryz.ntmps35
  go_wp2
  first | go_end0 | ((try simp only [Exit.inBlock, Exit.then]); refine bodyPost_ret (results_none rfl _ _ _) rfl ?_)
  exact ⟨by first | rfl | (simp [errW_none, errW_some] <;> rfl) | (simp [*, errW_none, errW_some] <;> rfl), by repeat (first | (with_reducible first | exact HI0.out | apply IsS63.alloc | apply IsS63.drewN | apply IsS63.drew | apply IsS63.set_0 | apply IsS63.set_1 | apply IsS63.set_2) | exact HI0.out), by repeat (first | (with_reducible first | exact HB.out | apply below_alloc | apply pw_below_drewN | apply below_drew1 | refine below_set ?_ (IsS63.ge HI0.out)) | exact HB.out), by repeat (first | (with_reducible first | exact HK.out | apply KeepBut.set_ | apply keep_drewN | apply keep_drew | apply keep_alloc) | exact HK.out)⟩
end Go.Proofs.YtknmbalhbecdhaaGreatDoor.Print
end
section
set_option linter.unusedVariables false
set_option linter.unusedSimpArgs false
namespace Go.Proofs.YtknmbalhbecdhaaGreatDoor.Pure
open Go.RowKit Go.Proofs.YtknmbalhbecdhaaGreatDoor.Print Go.Proofs.YtknmbalhbecdhaaGreatDoorW.PrintWords Go.Proofs.YtknmbalhbecdhaaGreatDoorW.PrintLast
/-- May this byte stand? -/
def okB (feeds : Bool) (c : UInt8) : Bool := !(c == 127 || (decide (c.toNat < 32) && c != 9 && !(feeds && c == 10)))
def cleanR (feeds : Bool) (l : List UInt8) : Int := if Lib.validD l = true then (if l.all (okB feeds) = true then 0 else 7) else 3
theorem okB_127 (f : Bool) : okB f 127 = false := by cases f <;> rfl
set_option maxHeartbeats 1000000 in
theorem refClean_ev (s : ByteArray) (f : Bool) (hs : s.size ≤ 140737488351232) : ∀ (n i : Nat), s.size - i ≤ n → i ≤ s.size → Ev (fun k => trystref08_Clean.l0 k s f (s.size : Int) i) (if (s.data.toList.drop i).all (okB f) = true then (0 : Int) else 7)
  | 0, i, h, hi => by
    obtain rfl : i = s.size := by omega
    refine Ev.step (f := fun _ => some 0) (fun k => ?_) ?_
    · simp only [trystref08_Clean.l0]; rw [if_neg (by omega)]
    · rw [List.drop_of_length_le (by simp)]; exact Ev.now _
  | n + 1, i, h, hi => by
    by_cases hlt : i < s.size
    · rw [drop_at s i hlt]
      have hb := bt_nat s i
      have ih := refClean_ev s f hs n (i + 1) (by omega) (by omega)
      generalize s.data.toList.getD i 0 = c at *
      have hc := c.toNat_lt
      refine Ev.step (f := fun k => if okB f c = true then trystref08_Clean.l0 k s f (s.size : Int) ((i + 1 : Nat) : Int) else some 7) (fun k => ?_) ?_
      · simp only [trystref08_Clean.l0, hb]
        rw [if_pos (by omega), if_pos (by omega), if_pos (by omega), wrap_one i (by omega)]
        by_cases h1 : c = 127
        · subst h1; rw [if_pos (show ((127 : UInt8).toNat : Int) = 127 from rfl), okB_127]; rfl
        · rw [if_neg (show ¬ (c.toNat : Int) = 127 from ne_nat c 127 (by omega) h1)]
          by_cases h2 : (c.toNat : Int) < 32
          · rw [if_pos h2]
            by_cases h3 : c = 9
            · subst h3; rw [if_pos (show ((9 : UInt8).toNat : Int) = 9 from rfl)]; cases f <;> rfl
            · rw [if_neg (show ¬ (c.toNat : Int) = 9 from ne_nat c 9 (by omega) h3)]
              have e2 : decide (c.toNat < 32) = true := by simp; omega
              cases f
              · rw [if_neg (by simp)]
                have : okB false c = false := by simp [okB, e2, h1, h3]
                rw [this]; rfl
              · rw [if_pos rfl]
                by_cases h4 : c = 10
                · subst h4; rw [if_pos (show ((10 : UInt8).toNat : Int) = 10 from rfl)]; rfl
                · rw [if_neg (show ¬ (c.toNat : Int) = 10 from ne_nat c 10 (by omega) h4)]
                  have : okB true c = false := by simp [okB, h1, h3, h4]; omega
                  rw [this]; rfl
          · rw [if_neg h2]
            have : okB f c = true := by simp [okB, h1]; omega
            rw [this]; rfl
      · rw [List.all_cons]
        cases hok : okB f c
        · exact Ev.now 7
        · simpa using ih
    · obtain rfl : i = s.size := by omega
      refine Ev.step (f := fun _ => some 0) (fun k => ?_) ?_
      · simp only [trystref08_Clean.l0]; rw [if_neg (by omega)]
      · rw [List.drop_of_length_le (by simp)]; exact Ev.now _
theorem refClean (s : ByteArray) (f : Bool) (hs : s.size ≤ 140737488351232) : Ev (fun k => trystref08_Clean.f k s f) (cleanR f s.data.toList) := by
  refine Ev.bind (UTF_all s hs) ?_
  unfold cleanR
  cases hv : Lib.validD s.data.toList
  · exact Ev.now 3
  · have := refClean_ev s f hs s.size 0 (by omega) (by omega)
    simpa using this
theorem control_some (c : UInt8) (f : Bool) : escape_control.f c.toNat f = some (!okB f c) := by
  have hc := c.toNat_lt
  unfold escape_control.f
  by_cases h3 : c = 9
  · subst h3; cases f <;> rfl
  · rw [if_neg (show ¬ (c.toNat : Int) = 9 from ne_nat c 9 (by omega) h3)]
    by_cases h4 : c = 10
    · subst h4; cases f <;> rfl
    · rw [if_neg (show ¬ (c.toNat : Int) = 10 from ne_nat c 10 (by omega) h4)]
      by_cases h2 : (c.toNat : Int) < 32
      · rw [if_pos h2]
        have : okB f c = false := by
          have e2 : decide (c.toNat < 32) = true := by simp; omega
          have e4 : (c == 10) = false := by simp [h4]
          have e9 : (c != 9) = true := by simp [h3]
          unfold okB; rw [e2, e4, e9]; cases f <;> simp
        rw [this]; rfl
      · rw [if_neg h2]
        have e2 : decide (c.toNat < 32) = false := by simp; omega
        by_cases h1 : c = 127
        · subst h1; cases f <;> rfl
        · have : ((c.toNat : Int) == 127) = false := beq_eq_false_iff_ne.2 (show ¬ (c.toNat : Int) = 127 from ne_nat c 127 (by omega) h1)
          have e1 : (c == 127) = false := by simp [h1]
          unfold okB; rw [this, e1, e2]; simp
theorem escClean_ev (s : ByteArray) (f : Bool) (hs : s.size ≤ 140737488351232) : ∀ (n i : Nat), s.size - i ≤ n → i ≤ s.size → Ev (fun k => escape_Clean.l0 k s f (s.size : Int) i) (if (s.data.toList.drop i).all (okB f) = true then (0 : Int) else 7)
  | 0, i, h, hi => by
    obtain rfl : i = s.size := by omega
    refine Ev.step (f := fun _ => some 0) (fun k => ?_) ?_
    · simp only [escape_Clean.l0]; rw [if_neg (by omega)]
    · rw [List.drop_of_length_le (by simp)]; exact Ev.now _
  | n + 1, i, h, hi => by
    by_cases hlt : i < s.size
    · rw [drop_at s i hlt]
      have hb := bt_nat s i
      have ih := escClean_ev s f hs n (i + 1) (by omega) (by omega)
      generalize s.data.toList.getD i 0 = c at *
      refine Ev.step (f := fun k => if okB f c = true then escape_Clean.l0 k s f (s.size : Int) ((i + 1 : Nat) : Int) else some 7) (fun k => ?_) ?_
      · simp only [escape_Clean.l0, hb, control_some, Option.bind_some]
        rw [if_pos (by omega), if_pos (by omega), if_pos (by omega), wrap_one i (by omega)]
        cases okB f c <;> rfl
      · rw [List.all_cons]
        cases hok : okB f c
        · exact Ev.now 7
        · simpa using ih
    · obtain rfl : i = s.size := by omega
      refine Ev.step (f := fun _ => some 0) (fun k => ?_) ?_
      · simp only [escape_Clean.l0]; rw [if_neg (by omega)]
      · rw [List.drop_of_length_le (by simp)]; exact Ev.now _
theorem escClean (s : ByteArray) (f : Bool) (hs : s.size ≤ 140737488351232) : Ev (fun k => escape_Clean.f k s f) (cleanR f s.data.toList) := by
  unfold escape_Clean.f
  have h1 : utf8_ValidString.f s = some (Lib.validD s.data.toList) := by unfold utf8_ValidString.f; rw [if_pos (by omega)]
  simp only [h1, Option.bind_some]
  unfold cleanR
  cases hv : Lib.validD s.data.toList
  · exact Ev.now 3
  · have := escClean_ev s f hs s.size 0 (by omega) (by omega)
    simpa using this
end Go.Proofs.YtknmbalhbecdhaaGreatDoor.Pure
end
section
namespace Go.Proofs.YtknmbalhbecdhaaGreatDoor.Print
open Go.RowKit Go.Proofs.YtknmbalhbecdhaaGreatDoorW.PrintWords Go.Proofs.YtknmbalhbecdhaaGreatDoorW.PrintLast
set_option linter.unusedVariables false
set_option linter.unusedSimpArgs false
def trystlaw10_Theirs.l0 : Nat → Int → Int → ByteArray → List (S44) → ByteArray → ByteArray → List (S53) → ByteArray → Option (ByteArray × (List (S53)) × ByteArray)
 | 0, _, _, _, _, _, _, _, _ => none
 | k + 1, x12, x13, x171000, x171001, x171002, x173000, x173001, x173002 => if x13 < x12 then (if 0 ≤ x13 then (if x13 < (x171001.length : Int) then ((some (([] : List ByteArray) : List ByteArray)).bind fun y174 => (if y174.length + ((rd_T44 x171001 x13).f1).length < 8796093022208 then (if x173001.length < 3518437208883 then (trystlaw10_Theirs.l0 k x12 (wrap64 (x13 + 1)) x171000 x171001 x171002 x173000 (x173001 ++ [(⟨(rd_T44 x171001 x13).f0, (y174 ++ ((rd_T44 x171001 x13).f1))⟩ : S53)]) x173002) else (none)) else (none))) else (none)) else (none)) else (some (x173000, x173001, x173002))
def trystlaw10_Theirs.f (k : Nat) (a0_0 : ByteArray) (l0_1 : List (S44)) (a0_2 : ByteArray) : Option (ByteArray × (List (S53)) × ByteArray) := trystlaw10_Theirs.l0 k (l0_1.length : Int) 0 a0_0 l0_1 a0_2 a0_0 ([] : List (S53)) a0_2
def trystlaw10_Theirs.T5 : Bool × List (List Nat × List Nat) := (true, [([], []), ([0], [0]), ([], []), ([2], [2]), ([], []), ([3, 4], [3, 4]), ([5], [5]), ([6], [6]), ([], []), ([], []), ([9], [9]), ([], []), ([10, 11], [10, 11]), ([12], [12]), ([13], [13]), ([8, 14], [8, 14]), ([7, 15], [7, 15]), ([16], [16]), ([1, 17, 15], [1, 17]), ([0, 1, 2, 3, 4, 5, 6, 7, 8, 9, 10, 11, 12, 13, 14, 15, 16, 17, 18], []), ([19, 18, 18, 0, 1, 2, 3, 4, 5, 6, 7, 8, 9, 10, 11, 12, 13, 14, 15, 16, 17, 18], [18, 19])])
def trystlaw10_Theirs.B5 : List Nat := [0, 1, 0, 4, 0, 28, 60, 124, 0, 0, 512, 0, 3584, 7680, 15872, 32512, 65532, 131068, 262143, 524287, 1048575]
theorem trystlaw10_Theirs.tab5 : rtab .any (opsOf Tryz.f9 5) = trystlaw10_Theirs.T5 := by kernel_rfl
theorem trystlaw10_Theirs.bits5 : waitsOk trystlaw10_Theirs.T5.2 trystlaw10_Theirs.B5 = true := by kernel_rfl
set_option maxHeartbeats 8000000 in
set_option maxRecDepth 100000 in
theorem trystlaw10_Theirs.calls (k : Nat) (a0_0 : ByteArray) (A0_1 : Option Addr) (c0_1 : Nat) (l0_1 : List (S44)) (a0_2 : ByteArray) (r1 : ByteArray) (r2 : List (S53)) (r3 : ByteArray) (w : World) (hG : GG w) (hr0_1 : Kd.C k44 w A0_1 l0_1.length l0_1) (hc0_1 : l0_1.length ≤ c0_1) (h : trystlaw10_Theirs.f k a0_0 l0_1 a0_2 = some (r1, r2, r3)) :
  Calls Tryz.prog 9 #[.agg #[.string a0_0, .slice A0_1 l0_1.length c0_1, .string a0_2]] w fun e w' => ∃ v1_ : Value, e = .returned (.agg #[.string r1, v1_, .string r3]) ∧ Kd.S k53 53 w' w.heap.size (fun _ => True) v1_ r2 ∧ Below w.heap.size w w' := by
 have hu24 := Tryz.underlying24
 have hu32 := Tryz.underlying32
 have hu53 := Tryz.underlying53
 have HR0_1 := Aside0.mk hr0_1
 have HC0_1 := Aside0.mk hc0_1
 clear hr0_1 hc0_1
 have HB := Aside0.mk (Below.refl w.heap.size w)
 have H : (trystlaw10_Theirs.l0 k (l0_1.length : Int) 0 a0_0 l0_1 a0_2 a0_0 ([] : List (S53)) a0_2) = some (r1, r2, r3) := h
 clear h
 have H' := Aside0.mk H
 clear H
 go_enter Tryz.func9, Tryz.ntmps9
 go_wp2_with (first | ((with_reducible refine gate_dst (N := 1) rfl ?_); refine box_event ?hg (N := 1) ?hd (cs := #[.string a0_0, .slice A0_1 l0_1.length c0_1, .string a0_2]) (t := 24) ?hr ?_; (case hd => rfl); (case hg => rfl); (case hr => first | (go_simp; done) | (go_simp; rfl)); intro gb170 hg w2 hbox hb; have n0_ := Aside0.mk (below_step (by repeat (first | (with_reducible first | exact HB.out | apply below_alloc | apply pw_below_drewN | apply below_drew1) | exact HB.out)) hb); have n1_ := Aside0.mk (hbox); have n2_ := Aside0.mk ((by rw [hg]; exact (below_size (by repeat (first | (with_reducible first | exact HB.out | apply below_alloc | apply pw_below_drewN | apply below_drew1) | exact HB.out))) : w.heap.size ≤ gb170)); have n3_ := Aside0.mk ((by rw [hg]; exact (below_size (by repeat (first | (with_reducible first | exact HB.out | apply below_alloc | apply pw_below_drewN | apply below_drew1) | exact HB.out))) : w.heap.size ≤ gb170)); clear HB; have HB := n0_; have BK170 := n1_; have GW170 := n2_; have GE170 := n3_; clear n0_ n1_ n2_ n3_; clear hb hbox hg) | ((with_reducible refine gate_dst (N := 2) rfl ?_); refine box_event ?hg (N := 2) ?hd (cs := #[.string (⟨#[]⟩ : ByteArray), .slice none 0 0, .string (⟨#[]⟩ : ByteArray)]) (t := 32) ?hr ?_; (case hd => rfl); (case hg => rfl); (case hr => first | (go_simp; done) | (go_simp; rfl)); intro gb171 hg w3 hbox hb; have n0_ := Aside0.mk (blk_below (g := gb170) (o := .cells #[.string a0_0, .slice A0_1 l0_1.length c0_1, .string a0_2] 24 (0, 0)) (by (with_reducible repeat (first | refine blk_drewN ?_ _ | refine blk_drew ?_ | refine blk_alloc ?_ _)); exact BK170.out) hb); have n1_ := Aside0.mk (below_step (by repeat (first | (with_reducible first | exact HB.out | apply below_alloc | apply pw_below_drewN | apply below_drew1 | refine below_set ?_ GE170.out) | exact HB.out)) hb); have n2_ := Aside0.mk (hbox); have n3_ := Aside0.mk ((by rw [hg]; exact (below_size (by repeat (first | (with_reducible first | exact HB.out | apply below_alloc | apply pw_below_drewN | apply below_drew1 | refine below_set ?_ GE170.out) | exact HB.out))) : w.heap.size ≤ gb171)); have n4_ := Aside0.mk ((by rw [hg]; exact (below_size (by repeat (first | (with_reducible first | exact HB.out | apply below_alloc | apply pw_below_drewN | apply below_drew1 | refine below_set ?_ GE170.out) | exact HB.out))) : w.heap.size ≤ gb171)); have n5_ := Aside0.mk ((by rw [hg]; exact Nat.ne_of_lt (blk_lt (g := gb170) (o := .cells #[.string a0_0, .slice A0_1 l0_1.length c0_1, .string a0_2] 24 (0, 0)) (by (with_reducible repeat (first | refine blk_drewN ?_ _ | refine blk_drew ?_ | refine blk_alloc ?_ _)); exact BK170.out)) : gb170 ≠ gb171)); have n6_ := Aside0.mk ((by rw [hg]; exact Nat.ne_of_gt (blk_lt (g := gb170) (o := .cells #[.string a0_0, .slice A0_1 l0_1.length c0_1, .string a0_2] 24 (0, 0)) (by (with_reducible repeat (first | refine blk_drewN ?_ _ | refine blk_drew ?_ | refine blk_alloc ?_ _)); exact BK170.out)) : gb171 ≠ gb170)); clear BK170; clear HB; have BK170 := n0_; have HB := n1_; have BK171 := n2_; have GW171 := n3_; have GE171 := n4_; have NB170_171 := n5_; have NB171_170 := n6_; clear n0_ n1_ n2_ n3_ n4_ n5_ n6_; clear hb hbox hg; have hnb4 := NB170_171.out; have hnc4 := NB171_170.out; have hcz5_0 : w3.cell? ⟨gb170, 0, none⟩ = some (.string a0_0) := (blk_cell BK170.out 0).trans rfl; have hcz5_1 : w3.cell? ⟨gb170, 1, none⟩ = some (.slice A0_1 l0_1.length c0_1) := (blk_cell BK170.out 1).trans rfl; have hcz5_2 : w3.cell? ⟨gb170, 2, none⟩ = some (.string a0_2) := (blk_cell BK170.out 2).trans rfl; have hfz5_0 := blk_frozen BK170.out 0; have hfz5_1 := blk_frozen BK170.out 1; have hfz5_2 := blk_frozen BK170.out 2) | ((with_reducible refine gate_dst (N := 3) rfl ?_); refine box_event ?hg (N := 3) ?hd (cs := #[.string (⟨#[]⟩ : ByteArray), .slice none 0 0, .string (⟨#[]⟩ : ByteArray)]) (t := 32) ?hr ?_; (case hd => rfl); (case hg => rfl); (case hr => first | (go_simp; done) | (go_simp; rfl)); intro gb172 hg w6 hbox hb; have n0_ := Aside0.mk (blk_below (g := gb170) (o := .cells #[.string a0_0, .slice A0_1 l0_1.length c0_1, .string a0_2] 24 (0, 0)) (by (with_reducible repeat (first | refine blk_drewN ?_ _ | refine blk_drew ?_ | refine blk_alloc ?_ _)); exact BK170.out) hb); have n1_ := Aside0.mk (blk_below (g := gb171) (o := .cells #[.string (⟨#[]⟩ : ByteArray), .slice none 0 0, .string (⟨#[]⟩ : ByteArray)] 32 (0, 0)) (by (with_reducible repeat (first | refine blk_drewN ?_ _ | refine blk_drew ?_ | refine blk_alloc ?_ _)); exact BK171.out) hb); have n2_ := Aside0.mk (below_step (by repeat (first | (with_reducible first | exact HB.out | apply below_alloc | apply pw_below_drewN | apply below_drew1 | refine below_set ?_ GE170.out | refine below_set ?_ GE171.out) | exact HB.out)) hb); have n3_ := Aside0.mk (hbox); have n4_ := Aside0.mk ((by rw [hg]; exact (below_size (by repeat (first | (with_reducible first | exact HB.out | apply below_alloc | apply pw_below_drewN | apply below_drew1 | refine below_set ?_ GE170.out | refine below_set ?_ GE171.out) | exact HB.out))) : w.heap.size ≤ gb172)); have n5_ := Aside0.mk ((by rw [hg]; exact (below_size (by repeat (first | (with_reducible first | exact HB.out | apply below_alloc | apply pw_below_drewN | apply below_drew1 | refine below_set ?_ GE170.out | refine below_set ?_ GE171.out) | exact HB.out))) : w.heap.size ≤ gb172)); have n6_ := Aside0.mk ((by rw [hg]; exact Nat.ne_of_lt (blk_lt (g := gb170) (o := .cells #[.string a0_0, .slice A0_1 l0_1.length c0_1, .string a0_2] 24 (0, 0)) (by (with_reducible repeat (first | refine blk_drewN ?_ _ | refine blk_drew ?_ | refine blk_alloc ?_ _)); exact BK170.out)) : gb170 ≠ gb172)); have n7_ := Aside0.mk ((by rw [hg]; exact Nat.ne_of_gt (blk_lt (g := gb170) (o := .cells #[.string a0_0, .slice A0_1 l0_1.length c0_1, .string a0_2] 24 (0, 0)) (by (with_reducible repeat (first | refine blk_drewN ?_ _ | refine blk_drew ?_ | refine blk_alloc ?_ _)); exact BK170.out)) : gb172 ≠ gb170)); have n8_ := Aside0.mk ((by rw [hg]; exact Nat.ne_of_lt (blk_lt (g := gb171) (o := .cells #[.string (⟨#[]⟩ : ByteArray), .slice none 0 0, .string (⟨#[]⟩ : ByteArray)] 32 (0, 0)) (by (with_reducible repeat (first | refine blk_drewN ?_ _ | refine blk_drew ?_ | refine blk_alloc ?_ _)); exact BK171.out)) : gb171 ≠ gb172)); have n9_ := Aside0.mk ((by rw [hg]; exact Nat.ne_of_gt (blk_lt (g := gb171) (o := .cells #[.string (⟨#[]⟩ : ByteArray), .slice none 0 0, .string (⟨#[]⟩ : ByteArray)] 32 (0, 0)) (by (with_reducible repeat (first | refine blk_drewN ?_ _ | refine blk_drew ?_ | refine blk_alloc ?_ _)); exact BK171.out)) : gb172 ≠ gb171)); clear BK170; clear BK171; clear HB; have BK170 := n0_; have BK171 := n1_; have HB := n2_; have BK172 := n3_; have GW172 := n4_; have GE172 := n5_; have NB170_172 := n6_; have NB172_170 := n7_; have NB171_172 := n8_; have NB172_171 := n9_; clear n0_ n1_ n2_ n3_ n4_ n5_ n6_ n7_ n8_ n9_; clear hb hbox hg; have hnb7 := NB172_170.out; have hnc7 := NB170_172.out; have hnb8 := NB172_171.out; have hnc8 := NB171_172.out; have hcz9_0 : w6.cell? ⟨gb172, 0, none⟩ = some (.string (⟨#[]⟩ : ByteArray)) := (blk_cell BK172.out 0).trans rfl; have hcz9_1 : w6.cell? ⟨gb172, 1, none⟩ = some (.slice none 0 0) := (blk_cell BK172.out 1).trans rfl; have hcz9_2 : w6.cell? ⟨gb172, 2, none⟩ = some (.string (⟨#[]⟩ : ByteArray)) := (blk_cell BK172.out 2).trans rfl; have hfz9_0 := blk_frozen BK172.out 0; have hfz9_1 := blk_frozen BK172.out 1; have hfz9_2 := blk_frozen BK172.out 2; have hcz10_0 : w6.cell? ⟨gb170, 0, none⟩ = some (.string a0_0) := (blk_cell BK170.out 0).trans rfl; have hcz10_1 : w6.cell? ⟨gb170, 1, none⟩ = some (.slice A0_1 l0_1.length c0_1) := (blk_cell BK170.out 1).trans rfl; have hcz10_2 : w6.cell? ⟨gb170, 2, none⟩ = some (.string a0_2) := (blk_cell BK170.out 2).trans rfl; have hfz10_0 := blk_frozen BK170.out 0; have hfz10_1 := blk_frozen BK170.out 1; have hfz10_2 := blk_frozen BK170.out 2))
 go_loopg [13] k (fun kq v13 w' => ∃ (x13_1 : Int) (x173001_1 : List (S53)) (u173001 : Value), v13 = .int .i64 x13_1 ∧ Aside0 (trystlaw10_Theirs.l0 kq (l0_1.length : Int) x13_1 a0_0 l0_1 a0_2 a0_0 x173001_1 a0_2 = some (r1, r2, r3)) ∧ Aside0 (kq ≤ k) ∧ Aside0 (Kd.S k53 53 w' w.heap.size (fun _ => True) u173001 x173001_1) ∧ Aside0 (w'.heap[gb170]? = some (.cells #[.string a0_0, (.slice A0_1 l0_1.length c0_1), .string a0_2] 24 (0, 0))) ∧ Aside0 (w'.heap[gb171]? = some (.cells #[.string (⟨#[]⟩ : ByteArray), (.slice none 0 0), .string (⟨#[]⟩ : ByteArray)] 32 (0, 0))) ∧ Aside0 (w'.heap[gb172]? = some (.cells #[.string a0_0, u173001, .string a0_2] 32 (0, 0))) ∧ Aside0 (Below w.heap.size w w'))
 case atStart => exact ⟨(0), (([] : List (S53))), (.slice none 0 0), (by first | rfl | (simp; done) | (simp [bne_nil_isEmpty, beq_nil_isEmpty]; done) | (simp [*]; done)), H', ⟨Nat.le_refl _⟩, ⟨by first | exact Kd.S_nil _ _ _ _ _ | exact Kd.N_nil _ _ _ _ _ | exact Kd.V_nil _ _ _ _ _ | exact Kd.Q_nil _ _ _ _ _ | exact Kd.R_nil _ _ _ _ _⟩, ⟨by (with_reducible repeat (first | refine blk_drewN ?_ _ | refine blk_drew ?_ | refine blk_alloc ?_ _)); refine blk_far ?_ NB170_172.out _; (with_reducible repeat (first | refine blk_drewN ?_ _ | refine blk_drew ?_ | refine blk_alloc ?_ _)); refine blk_far ?_ NB170_172.out _; (with_reducible repeat (first | refine blk_drewN ?_ _ | refine blk_drew ?_ | refine blk_alloc ?_ _)); refine blk_far ?_ NB170_172.out _; (with_reducible repeat (first | refine blk_drewN ?_ _ | refine blk_drew ?_ | refine blk_alloc ?_ _)); exact BK170.out⟩, ⟨by (with_reducible repeat (first | refine blk_drewN ?_ _ | refine blk_drew ?_ | refine blk_alloc ?_ _)); refine blk_far ?_ NB171_172.out _; (with_reducible repeat (first | refine blk_drewN ?_ _ | refine blk_drew ?_ | refine blk_alloc ?_ _)); refine blk_far ?_ NB171_172.out _; (with_reducible repeat (first | refine blk_drewN ?_ _ | refine blk_drew ?_ | refine blk_alloc ?_ _)); refine blk_far ?_ NB171_172.out _; (with_reducible repeat (first | refine blk_drewN ?_ _ | refine blk_drew ?_ | refine blk_alloc ?_ _)); exact BK171.out⟩, ⟨by (with_reducible repeat (first | refine blk_drewN ?_ _ | refine blk_drew ?_ | refine blk_alloc ?_ _)); refine blk_put (cs := #[.string a0_0, .slice none 0 0, .string (⟨#[]⟩ : ByteArray)]) ?_ 2 _ rfl; (with_reducible repeat (first | refine blk_drewN ?_ _ | refine blk_drew ?_ | refine blk_alloc ?_ _)); refine blk_put (cs := #[.string a0_0, .slice none 0 0, .string (⟨#[]⟩ : ByteArray)]) ?_ 1 _ rfl; (with_reducible repeat (first | refine blk_drewN ?_ _ | refine blk_drew ?_ | refine blk_alloc ?_ _)); refine blk_put (cs := #[.string (⟨#[]⟩ : ByteArray), .slice none 0 0, .string (⟨#[]⟩ : ByteArray)]) ?_ 0 _ rfl; (with_reducible repeat (first | refine blk_drewN ?_ _ | refine blk_drew ?_ | refine blk_alloc ?_ _)); exact BK172.out⟩, ⟨by repeat (first | (with_reducible first | exact HB.out | apply below_alloc | apply pw_below_drewN | apply below_drew1 | refine below_set ?_ GE170.out | refine below_set ?_ GE171.out | refine below_set ?_ GE172.out) | exact HB.out)⟩⟩
 case round =>
  clear H'
  try clear p2
  try clear c4
  try clear c7
  try clear c8
  try clear c9
  try clear hcz10_0
  try clear hcz10_1
  try clear hcz10_2
  try clear hcz5_0
  try clear hcz5_1
  try clear hcz5_2
  try clear hcz9_0
  try clear hcz9_1
  try clear hcz9_2
  try clear hfz10_0
  try clear hfz10_1
  try clear hfz10_2
  try clear hfz5_0
  try clear hfz5_1
  try clear hfz5_2
  try clear hfz9_0
  try clear hfz9_1
  try clear hfz9_2
  obtain ⟨x13_1, x173001_1, u173001, rfl, HA, HK1, HO_173001, BK170, BK171, BK172, HB⟩ := hrel
  cases gk with
  | zero => exact absurd HA.out (by simp [trystlaw10_Theirs.l0])
  | succ k1 =>
   have H := HA.out
   clear HA
   simp only [trystlaw10_Theirs.l0] at H
   by_cases c11 : x13_1 < (l0_1.length : Int)
   ·rw [if_pos c11] at H
    have c11b0 : decide (x13_1 < (l0_1.length : Int)) = true := decide_eq_true c11
    clear c11
    by_cases c12 : 0 ≤ x13_1
    ·rw [if_pos c12] at H
     have c12b0 : decide (0 ≤ x13_1) = true := decide_eq_true c12
     clear c12
     by_cases c13 : x13_1 < (l0_1.length : Int)
     ·rw [if_pos c13] at H
      have c13b0 : decide (x13_1 < (l0_1.length : Int)) = true := decide_eq_true c13
      clear c13
      obtain ⟨y174, hy174⟩ : ∃ y_ : List ByteArray, y_ = (([] : List ByteArray)) := ⟨_, rfl⟩
      replace H : (if y174.length + ((rd_T44 l0_1 x13_1).f1).length < 8796093022208 then (if x173001_1.length < 3518437208883 then (trystlaw10_Theirs.l0 k1 (l0_1.length : Int) (wrap64 (x13_1 + 1)) a0_0 l0_1 a0_2 a0_0 (x173001_1 ++ [(⟨(rd_T44 l0_1 x13_1).f0, (y174 ++ ((rd_T44 l0_1 x13_1).f1))⟩ : S53)]) a0_2) else (none)) else (none)) = some (r1, r2, r3) := by first | (rw [hy174]; with_reducible exact H) | (have H2_ := (Option.bind_some _ _).symm.trans H; rw [hy174]; with_reducible exact H2_) | (have H2_ := (Option.bind_some _ _).symm.trans H; with_reducible exact H2_) | with_reducible exact H | (rw [hy174]; exact H) | exact H
      have Ny174 := Aside0.mk hy174
      clear hy174
      by_cases c14 : y174.length + ((rd_T44 l0_1 x13_1).f1).length < 8796093022208
      ·rw [if_pos c14] at H
       have LMc14 := Aside0.mk c14
       clear c14
       obtain ⟨y178, hy178⟩ : ∃ y_ : List ByteArray, y_ = (y174 ++ ((rd_T44 l0_1 x13_1).f1)) := ⟨_, rfl⟩
       replace H : (if x173001_1.length < 3518437208883 then (trystlaw10_Theirs.l0 k1 (l0_1.length : Int) (wrap64 (x13_1 + 1)) a0_0 l0_1 a0_2 a0_0 (x173001_1 ++ [(⟨(rd_T44 l0_1 x13_1).f0, y178⟩ : S53)]) a0_2) else (none)) = some (r1, r2, r3) := by first | (rw [hy178]; with_reducible exact H) | (have H2_ := (Option.bind_some _ _).symm.trans H; rw [hy178]; with_reducible exact H2_) | (have H2_ := (Option.bind_some _ _).symm.trans H; with_reducible exact H2_) | with_reducible exact H | (rw [hy178]; exact H) | exact H
       have Ny178 := Aside0.mk hy178
       clear hy178
       by_cases c15 : x173001_1.length < 3518437208883
       ·rw [if_pos c15] at H
        have LMc15 := Aside0.mk c15
        clear c15
        obtain ⟨y181, hy181⟩ : ∃ y_ : List (S53), y_ = (x173001_1 ++ [(⟨(rd_T44 l0_1 x13_1).f0, y178⟩ : S53)]) := ⟨_, rfl⟩
        replace H : (trystlaw10_Theirs.l0 k1 (l0_1.length : Int) (wrap64 (x13_1 + 1)) a0_0 l0_1 a0_2 a0_0 y181 a0_2) = some (r1, r2, r3) := by first | (rw [hy181]; with_reducible exact H) | (have H2_ := (Option.bind_some _ _).symm.trans H; rw [hy181]; with_reducible exact H2_) | (have H2_ := (Option.bind_some _ _).symm.trans H; with_reducible exact H2_) | with_reducible exact H | (rw [hy181]; exact H) | exact H
        have Ny181 := Aside0.mk hy181
        clear hy181
        have H' := Aside0.mk H
        clear H
        try go_wp2
        have n0_ := Aside0.mk (Kd.S_drew HO_173001.out)
        have n1_ := Aside0.mk (blk_drew BK170.out)
        have n2_ := Aside0.mk (blk_drew BK171.out)
        have n3_ := Aside0.mk (blk_drew BK172.out)
        have n4_ := Aside0.mk (below_drew1 HB.out)
        clear HO_173001
        clear BK170
        clear BK171
        clear BK172
        clear HB
        have HO_173001 := n0_
        have BK170 := n1_
        have BK171 := n2_
        have BK172 := n3_
        have HB := n4_
        clear n0_ n1_ n2_ n3_ n4_
        have p173 : 0 ≤ (x13_1 : Int) := of_decide_eq_true (by first | (with_reducible assumption) | assumption)
        have q173 : x13_1 < (l0_1.length : Int) := of_decide_eq_true (by first | (with_reducible assumption) | assumption)
        obtain ⟨ad173, A173_1, c173_1, e173, hx173_0, hx173_1, hl173_1, hi173_1⟩ := at_T44 HR0_1.out x13_1 p173 q173
        have hw173_1 := hx173_1
        have hw173_0 := hx173_0
        cases e173
        replace hx173_0 := (HB.out.cell (World.block_lt_of_cell? w _ hx173_0)).trans hx173_0
        replace hx173_1 := (HB.out.cell (World.block_lt_of_cell? w _ hx173_1)).trans hx173_1
        have HR173_1 := Aside0.mk hi173_1
        have HC173_1 := Aside0.mk hl173_1
        clear hi173_1 hl173_1
        replace p173 := eq_true p173
        replace q173 := eq_true q173
        have p177 : 0 ≤ (x13_1 : Int) := of_decide_eq_true (by first | (with_reducible assumption) | assumption)
        have q177 : x13_1 < (l0_1.length : Int) := of_decide_eq_true (by first | (with_reducible assumption) | assumption)
        obtain ⟨ad177, A177_1, c177_1, e177, hx177_0, hx177_1, hl177_1, hi177_1⟩ := at_T44 HR0_1.out x13_1 p177 q177
        have hw177_1 := hx177_1
        have hw177_0 := hx177_0
        obtain rfl : ad173 = ad177 := (by injection e177)
        replace hx177_0 := (HB.out.cell (World.block_lt_of_cell? w _ hx177_0)).trans hx177_0
        replace hx177_1 := (HB.out.cell (World.block_lt_of_cell? w _ hx177_1)).trans hx177_1
        have HR177_1 := Aside0.mk hi177_1
        have HC177_1 := Aside0.mk hl177_1
        clear hi177_1 hl177_1
        replace p177 := eq_true p177
        replace q177 := eq_true q177
        have ea_ := Option.some.inj (hx173_1.symm.trans hx177_1)
        injection ea_ with ea_ en_ ec_
        subst ea_
        subst ec_
        clear en_
        refine start_ (n := 21) (S := fun w' => w'.cell? ⟨gb172, 0, none⟩ = some (.string a0_0) ∧ w'.cell? ⟨gb172, 1, none⟩ = some (u173001) ∧ w'.cell? ⟨gb172, 2, none⟩ = some (.string a0_2) ∧ w'.cell? ⟨gb170, 0, none⟩ = some (.string a0_0) ∧ w'.cell? ⟨gb170, 1, none⟩ = some (.slice (some ad173) l0_1.length c0_1) ∧ w'.cell? ⟨gb170, 2, none⟩ = some (.string a0_2) ∧ w'.cell? (ad173.add ((x13_1).toNat * 2)) = some (.string ((rd_T44 l0_1 x13_1).f0)) ∧ w'.cell? ⟨(ad173.add ((x13_1).toNat * 2)).block, (ad173.add ((x13_1).toNat * 2)).off + 1, none⟩ = some (.slice A173_1 ((rd_T44 l0_1 x13_1).f1).length c173_1) ∧ w'.cell? (ad173.add ((x13_1).toNat * 2)) = some (.string ((rd_T44 l0_1 x13_1).f0)) ∧ w'.cell? ⟨(ad173.add ((x13_1).toNat * 2)).block, (ad173.add ((x13_1).toNat * 2)).off + 1, none⟩ = some (.slice A173_1 ((rd_T44 l0_1 x13_1).f1).length c173_1)) (ds := [20]) #[false, false, false, false, false, false, false, false, false, false, false, false, false, false, false, false, false, false, false, false, false] (by kernel_rfl) rfl rfl ⟨(blk_cell BK172.out 0).trans rfl, (blk_cell BK172.out 1).trans rfl, (blk_cell BK172.out 2).trans rfl, (blk_cell BK170.out 0).trans rfl, (blk_cell BK170.out 1).trans rfl, (blk_cell BK170.out 2).trans rfl, ((HB.out.cell (World.block_lt_of_cell? w _ hw173_0)).trans hw173_0), ((HB.out.cell (World.block_lt_of_cell? w _ hw173_1)).trans hw173_1), ((HB.out.cell (World.block_lt_of_cell? w _ hw177_0)).trans hw177_0), ((HB.out.cell (World.block_lt_of_cell? w _ hw177_1)).trans hw177_1)⟩ (fun hHeld => ?_); refine with_tabW trystlaw10_Theirs.tab5 trystlaw10_Theirs.bits5 (fun HT_ HW_ => ?_)
        generalize wr.drew = w16 at HO_173001 BK170 BK171 BK172 HB HR173_1 HR177_1 hx173_0 hx173_1 hx177_0 hx177_1 hHeld ⊢
        refine pure_ (i := 0) (N := some 16) (v := ?_) (a' := ?_) #[true, false, false, false, false, false, false, false, false, false, false, false, false, false, false, false, false, false, false, false, false] rfl rfl (any_of HT_.out (by kernel_rfl)) (fun _ _ _ h => h) (Or.inl ⟨by rfl, ?_⟩) ?_ ?_
        rotate_left
        ·intro w'
         go_simp
         with_reducible rfl
        rotate_left
        ·simp only [Act.put, List.setIfInBounds_toArray, List.set_cons_zero, List.set_cons_succ, i64_w, i32_w]
         rfl
        refine pure_ (i := 2) (N := some 18) (v := ?_) (a' := ?_) #[true, false, true, false, false, false, false, false, false, false, false, false, false, false, false, false, false, false, false, false, false] rfl rfl (any_of HT_.out (by kernel_rfl)) (fun _ _ _ h => h) (Or.inl ⟨by rfl, ?_⟩) ?_ ?_
        rotate_left
        ·intro w'
         go_simp
         with_reducible rfl
        rotate_left
        ·simp only [Act.put, List.setIfInBounds_toArray, List.set_cons_zero, List.set_cons_succ, i64_w, i32_w]
         rfl
        refine pure_ (i := 4) (N := some 20) (v := ?_) (a' := ?_) #[true, false, true, false, true, false, false, false, false, false, false, false, false, false, false, false, false, false, false, false, false] rfl rfl (any_of HT_.out (by kernel_rfl)) (fun _ _ _ h => h) (Or.inl ⟨by rfl, ?_⟩) ?_ ?_
        rotate_left
        ·intro w'
         go_simp
         with_reducible rfl
        rotate_left
        ·simp only [Act.put, List.setIfInBounds_toArray, List.set_cons_zero, List.set_cons_succ, i64_w, i32_w]
         rfl
        refine pure_ (i := 9) (N := some 25) (v := ?_) (a' := ?_) #[true, false, true, false, true, false, false, false, false, true, false, false, false, false, false, false, false, false, false, false, false] rfl rfl (any_of HT_.out (by kernel_rfl)) (fun _ _ _ h => h) (Or.inl ⟨by rfl, ?_⟩) ?_ ?_
        rotate_left
        ·intro w'
         go_simp
         with_reducible rfl
        rotate_left
        ·simp only [Act.put, List.setIfInBounds_toArray, List.set_cons_zero, List.set_cons_succ, i64_w, i32_w]
         rfl
        refine pure_ (i := 11) (N := some 27) (v := ?_) (a' := ?_) #[true, false, true, false, true, false, false, false, false, true, false, true, false, false, false, false, false, false, false, false, false] rfl rfl (any_of HT_.out (by kernel_rfl)) (fun _ _ _ h => h) (Or.inl ⟨by rfl, ?_⟩) ?_ ?_
        rotate_left
        ·intro w'
         go_simp
         with_reducible rfl
        rotate_left
        ·simp only [Act.put, List.setIfInBounds_toArray, List.set_cons_zero, List.set_cons_succ, i64_w, i32_w]
         rfl
        refine take_ (i := 1) (N := some 17) (v := ?_) (a' := ?_) #[true, true, true, false, true, false, false, false, false, true, false, true, false, false, false, false, false, false, false, false, false] rfl rfl (take_ofW HT_.out HW_.out (by kernel_rfl)) (fun _ _ _ h => h) (Or.inl ⟨by rfl, ?_⟩) hHeld ?_ ?_
        rotate_left
        ·rintro w' ⟨s0, s1, s2, s3, s4, s5, s6, s7, s8, s9⟩
         go_simp
         with_reducible rfl
        rotate_left
        ·simp only [Act.put, List.setIfInBounds_toArray, List.set_cons_zero, List.set_cons_succ, i64_w, i32_w]
         rfl
        refine take_ (i := 3) (N := some 19) (v := ?_) (a' := ?_) #[true, true, true, true, true, false, false, false, false, true, false, true, false, false, false, false, false, false, false, false, false] rfl rfl (take_ofW HT_.out HW_.out (by kernel_rfl)) (fun _ _ _ h => h) (Or.inl ⟨by rfl, ?_⟩) hHeld ?_ ?_
        rotate_left
        ·rintro w' ⟨s0, s1, s2, s3, s4, s5, s6, s7, s8, s9⟩
         go_simp
         with_reducible rfl
        rotate_left
        ·simp only [Act.put, List.setIfInBounds_toArray, List.set_cons_zero, List.set_cons_succ, i64_w, i32_w]
         rfl
        refine pure_ (i := 5) (N := some 21) (v := ?_) (a' := ?_) #[true, true, true, true, true, true, false, false, false, true, false, true, false, false, false, false, false, false, false, false, false] rfl rfl (any_of HT_.out (by kernel_rfl)) (fun _ _ _ h => h) (Or.inl ⟨by rfl, ?_⟩) ?_ ?_
        rotate_left
        ·intro w'
         go_simp
         with_reducible rfl
        rotate_left
        ·simp only [Act.put, List.setIfInBounds_toArray, List.set_cons_zero, List.set_cons_succ, i64_w, i32_w]
         rfl
        refine pure_ (i := 6) (N := some 22) (v := ?_) (a' := ?_) #[true, true, true, true, true, true, true, false, false, true, false, true, false, false, false, false, false, false, false, false, false] rfl rfl (any_of HT_.out (by kernel_rfl)) (fun _ _ _ h => h) (Or.inl ⟨by rfl, ?_⟩) ?_ ?_
        rotate_left
        ·intro w'
         go_simp
         with_reducible rfl
        rotate_left
        ·simp only [Act.put, List.setIfInBounds_toArray, List.set_cons_zero, List.set_cons_succ, i64_w, i32_w]
         rfl
        refine take_ (i := 7) (N := some 23) (v := ?_) (a' := ?_) #[true, true, true, true, true, true, true, true, false, true, false, true, false, false, false, false, false, false, false, false, false] rfl rfl (take_ofW HT_.out HW_.out (by kernel_rfl)) (fun _ _ _ h => h) (Or.inl ⟨by rfl, ?_⟩) hHeld ?_ ?_
        rotate_left
        ·rintro w' ⟨s0, s1, s2, s3, s4, s5, s6, s7, s8, s9⟩
         go_simp
         with_reducible rfl
        rotate_left
        ·simp only [Act.put, List.setIfInBounds_toArray, List.set_cons_zero, List.set_cons_succ, i64_w, i32_w]
         rfl
        refine take_ (i := 10) (N := some 26) (v := ?_) (a' := ?_) #[true, true, true, true, true, true, true, true, false, true, true, true, false, false, false, false, false, false, false, false, false] rfl rfl (take_ofW HT_.out HW_.out (by kernel_rfl)) (fun _ _ _ h => h) (Or.inl ⟨by rfl, ?_⟩) hHeld ?_ ?_
        rotate_left
        ·rintro w' ⟨s0, s1, s2, s3, s4, s5, s6, s7, s8, s9⟩
         go_simp
         with_reducible rfl
        rotate_left
        ·simp only [Act.put, List.setIfInBounds_toArray, List.set_cons_zero, List.set_cons_succ, i64_w, i32_w]
         rfl
        refine pure_ (i := 12) (N := some 28) (v := ?_) (a' := ?_) #[true, true, true, true, true, true, true, true, false, true, true, true, true, false, false, false, false, false, false, false, false] rfl rfl (any_of HT_.out (by kernel_rfl)) (fun _ _ _ h => h) (Or.inl ⟨by rfl, ?_⟩) ?_ ?_
        rotate_left
        ·intro w'
         go_simp
         with_reducible rfl
        rotate_left
        ·simp only [Act.put, List.setIfInBounds_toArray, List.set_cons_zero, List.set_cons_succ, i64_w, i32_w]
         rfl
        refine pure_ (i := 13) (N := some 29) (v := ?_) (a' := ?_) #[true, true, true, true, true, true, true, true, false, true, true, true, true, true, false, false, false, false, false, false, false] rfl rfl (any_of HT_.out (by kernel_rfl)) (fun _ _ _ h => h) (Or.inl ⟨by rfl, ?_⟩) ?_ ?_
        rotate_left
        ·intro w'
         go_simp
         with_reducible rfl
        rotate_left
        ·simp only [Act.put, List.setIfInBounds_toArray, List.set_cons_zero, List.set_cons_succ, i64_w, i32_w]
         rfl
        refine take_ (i := 14) (N := some 30) (v := ?_) (a' := ?_) #[true, true, true, true, true, true, true, true, false, true, true, true, true, true, true, false, false, false, false, false, false] rfl rfl (take_ofW HT_.out HW_.out (by kernel_rfl)) (fun _ _ _ h => h) (Or.inl ⟨by rfl, ?_⟩) hHeld ?_ ?_
        rotate_left
        ·rintro w' ⟨s0, s1, s2, s3, s4, s5, s6, s7, s8, s9⟩
         go_simp
         with_reducible rfl
        rotate_left
        ·simp only [Act.put, List.setIfInBounds_toArray, List.set_cons_zero, List.set_cons_succ, i64_w, i32_w]
         rfl
        refine one_ (i := 8) (N := some 24) #[true, true, true, true, true, true, true, true, true, true, true, true, true, true, true, false, false, false, false, false, false] rfl rfl (one_of HT_.out (by kernel_rfl)) (by decide) (fun K hK => ?_)
        refine Kd.R_lit_step Kd.string _ 9 ?hg (N := 24) ?hd (xs := ([] : List ByteArray)) (inner := []) (ok := fun _ => True) (okp := fun _ => True) ?hr ?hp (fun _ hk => hk) trivial (Below.refl _ _) (Nat.le_refl _) (by simp) ?_; (case hd => rfl); (case hg => rfl); (case hr => first | (go_simp; done) | (go_simp; rfl)); (case hp => exact (Reps.none _ _))
        intro v175 w17 ho18 hb hg_ hnew_
        clear hg_ hnew_
        (first | rw [← Ny174.out] at ho18 | (simp only [Int.reduceToNat] at ho18; rw [← Ny174.out] at ho18))
        have n0_ := Aside0.mk (Kd.S_elder' (by (with_reducible repeat (first | apply Kd.S_alloc | apply Kd.S_drewN | apply Kd.S_drew)); exact HO_173001.out) (Kd.R_base ho18) hb)
        have n1_ := Aside0.mk (Kd.R_lower ho18 (below_size (by repeat (first | (with_reducible first | exact HB.out | apply below_alloc | apply pw_below_drewN | apply below_drew1 | refine below_set ?_ GE170.out | refine below_set ?_ GE171.out | refine below_set ?_ GE172.out) | exact HB.out))))
        have n2_ := Aside0.mk (blk_below (g := gb170) (o := .cells #[.string a0_0, .slice (some ad173) l0_1.length c0_1, .string a0_2] 24 (0, 0)) (by (with_reducible repeat (first | refine blk_drewN ?_ _ | refine blk_drew ?_ | refine blk_alloc ?_ _)); exact BK170.out) hb)
        have n3_ := Aside0.mk (blk_below (g := gb171) (o := .cells #[.string (⟨#[]⟩ : ByteArray), .slice none 0 0, .string (⟨#[]⟩ : ByteArray)] 32 (0, 0)) (by (with_reducible repeat (first | refine blk_drewN ?_ _ | refine blk_drew ?_ | refine blk_alloc ?_ _)); exact BK171.out) hb)
        have n4_ := Aside0.mk (blk_below (g := gb172) (o := .cells #[.string a0_0, u173001, .string a0_2] 32 (0, 0)) (by (with_reducible repeat (first | refine blk_drewN ?_ _ | refine blk_drew ?_ | refine blk_alloc ?_ _)); exact BK172.out) hb)
        have n5_ := Aside0.mk (below_step (by repeat (first | (with_reducible first | exact HB.out | apply below_alloc | apply pw_below_drewN | apply below_drew1 | refine below_set ?_ GE170.out | refine below_set ?_ GE171.out | refine below_set ?_ GE172.out) | exact HB.out)) hb)
        clear HO_173001
        clear BK170
        clear BK171
        clear BK172
        clear HB
        have HO_173001 := n0_
        have HO176 := n1_
        have BK170 := n2_
        have BK171 := n3_
        have BK172 := n4_
        have HB := n5_
        clear n0_ n1_ n2_ n3_ n4_ n5_
        clear hb ho18
        refine hK.out _ _ ⟨(blk_cell BK172.out 0).trans rfl, (blk_cell BK172.out 1).trans rfl, (blk_cell BK172.out 2).trans rfl, (blk_cell BK170.out 0).trans rfl, (blk_cell BK170.out 1).trans rfl, (blk_cell BK170.out 2).trans rfl, ((HB.out.cell (World.block_lt_of_cell? w _ hw173_0)).trans hw173_0), ((HB.out.cell (World.block_lt_of_cell? w _ hw173_1)).trans hw173_1), ((HB.out.cell (World.block_lt_of_cell? w _ hw177_0)).trans hw177_0), ((HB.out.cell (World.block_lt_of_cell? w _ hw177_1)).trans hw177_1)⟩ (fun hHeld => ?_)
        clear hK K
        refine norm_ (a' := ?_) ?_ ?_
        rotate_left
        ·show Act.put _ (some 24) _ = _
         simp only [Act.put, List.setIfInBounds_toArray, List.set_cons_zero, List.set_cons_succ, i64_w, i32_w]
         rfl
        refine one_ (i := 15) (N := some 31) #[true, true, true, true, true, true, true, true, true, true, true, true, true, true, true, true, false, false, false, false, false] rfl rfl (one_of HT_.out (by kernel_rfl)) (by decide) (fun K hK => ?_)
        refine Kd.R_append_rows_step Kd.string (w0 := w) w.heap.size (by rfl) (.tmp 24) (.tmp 30) 42 9 (.string ⟨#[]⟩) 16 rfl Tryz.underlying42 info9 rfl (by decide) (by omega) v175 y174 ((rd_T44 l0_1 x13_1).f1) _ _ _ (fun _ => True) (fun _ => False) rfl rfl ?aO ?aR (fun _ _ h => h) (fun _ h => h.elim) ?aF ?aB ?aS ?aL ?_
        (case aR => repeat (first | exact (Kd.C_below HR177_1.out HB.out) | (with_reducible refine Kd.C_alloc ?_ _) | (with_reducible refine Kd.C_drewN ?_ _) | (with_reducible refine Kd.C_drew ?_)))
        (case aB => exact (by repeat (first | (with_reducible first | exact HB.out | apply below_alloc | apply pw_below_drewN | apply below_drew1 | refine below_set ?_ GE170.out | refine below_set ?_ GE171.out | refine below_set ?_ GE172.out) | exact HB.out)))
        (case aF => exact (fun _ _ => trivial))
        (case aO => exact (by (with_reducible repeat (first | apply Kd.R_alloc | apply Kd.R_drewN | apply Kd.R_drew)); exact HO176.out))
        (case aS => exact (below_size (by repeat (first | (with_reducible first | exact HB.out | apply below_alloc | apply pw_below_drewN | apply below_drew1 | refine below_set ?_ GE170.out | refine below_set ?_ GE171.out | refine below_set ?_ GE172.out) | exact HB.out))))
        (case aL => have := LMc14.out; omega)
        intro v179 w19 ho hb hg hat
        rw [← Ny178.out] at ho
        have n0_ := Aside0.mk (Kd.S_after (ok := (fun _ => True)) (by (with_reducible repeat (first | apply Kd.S_alloc | apply Kd.S_drewN | apply Kd.S_drew)); exact HO_173001.out) hg hat)
        have n1_ := Aside0.mk (blk_grown (g := gb170) (o := .cells #[.string a0_0, .slice (some ad173) l0_1.length c0_1, .string a0_2] 24 (0, 0)) (by (with_reducible repeat (first | refine blk_drewN ?_ _ | refine blk_drew ?_ | refine blk_alloc ?_ _)); exact BK170.out) hg (Kd.R_ne HO176.out BK170.out (by decide)))
        have n2_ := Aside0.mk (blk_grown (g := gb171) (o := .cells #[.string (⟨#[]⟩ : ByteArray), .slice none 0 0, .string (⟨#[]⟩ : ByteArray)] 32 (0, 0)) (by (with_reducible repeat (first | refine blk_drewN ?_ _ | refine blk_drew ?_ | refine blk_alloc ?_ _)); exact BK171.out) hg (Kd.R_ne HO176.out BK171.out (by decide)))
        have n3_ := Aside0.mk (blk_grown (g := gb172) (o := .cells #[.string a0_0, u173001, .string a0_2] 32 (0, 0)) (by (with_reducible repeat (first | refine blk_drewN ?_ _ | refine blk_drew ?_ | refine blk_alloc ?_ _)); exact BK172.out) hg (Kd.R_ne HO176.out BK172.out (by decide)))
        have n4_ := Aside0.mk (hb)
        have n5_ := Aside0.mk (ho)
        clear HO_173001
        clear BK170
        clear BK171
        clear BK172
        clear HB
        clear HO176
        have HO_173001 := n0_
        have BK170 := n1_
        have BK171 := n2_
        have BK172 := n3_
        have HB := n4_
        have HO180 := n5_
        clear n0_ n1_ n2_ n3_ n4_ n5_
        clear ho hb hg hat
        obtain ⟨Ao20, co20, eo20⟩ := Kd.R_slice HO180.out
        (first | subst eo20 | (injection eo20 with f1_ f2_ f3_; have f4_ := f1_.symm; have f5_ := f3_.symm; clear f1_ f2_ f3_; subst f4_; subst f5_))
        refine hK.out _ _ ⟨(blk_cell BK172.out 0).trans rfl, (blk_cell BK172.out 1).trans rfl, (blk_cell BK172.out 2).trans rfl, (blk_cell BK170.out 0).trans rfl, (blk_cell BK170.out 1).trans rfl, (blk_cell BK170.out 2).trans rfl, ((HB.out.cell (World.block_lt_of_cell? w _ hw173_0)).trans hw173_0), ((HB.out.cell (World.block_lt_of_cell? w _ hw173_1)).trans hw173_1), ((HB.out.cell (World.block_lt_of_cell? w _ hw177_0)).trans hw177_0), ((HB.out.cell (World.block_lt_of_cell? w _ hw177_1)).trans hw177_1)⟩ (fun hHeld => ?_)
        clear hK K
        refine norm_ (a' := ?_) ?_ ?_
        rotate_left
        ·show Act.put _ (some 31) _ = _
         simp only [Act.put, List.setIfInBounds_toArray, List.set_cons_zero, List.set_cons_succ, i64_w, i32_w]
         rfl
        refine pure_ (i := 16) (N := some 32) (v := ?_) (a' := ?_) #[true, true, true, true, true, true, true, true, true, true, true, true, true, true, true, true, true, false, false, false, false] rfl rfl (any_of HT_.out (by kernel_rfl)) (fun _ _ _ h => h) (Or.inl ⟨by rfl, ?_⟩) ?_ ?_
        rotate_left
        ·intro w'
         go_simp
         with_reducible rfl
        rotate_left
        ·simp only [Act.put, List.setIfInBounds_toArray, List.set_cons_zero, List.set_cons_succ, i64_w, i32_w]
         rfl
        refine one_ (i := 17) (N := some 33) #[true, true, true, true, true, true, true, true, true, true, true, true, true, true, true, true, true, true, false, false, false] rfl rfl (one_of HT_.out (by kernel_rfl)) (by decide) (fun K hK => ?_)
        refine value_ (w1 := ?_) (v := ?_) (by rfl) rfl ?_ ?_
        rotate_left 2
        ·go_simp
         constructor
         ·rfl
         ·rfl
        refine hK.out _ _ ⟨(blk_cell (blk_alloc BK172.out _) 0).trans rfl, (blk_cell (blk_alloc BK172.out _) 1).trans rfl, (blk_cell (blk_alloc BK172.out _) 2).trans rfl, (blk_cell (blk_alloc BK170.out _) 0).trans rfl, (blk_cell (blk_alloc BK170.out _) 1).trans rfl, (blk_cell (blk_alloc BK170.out _) 2).trans rfl, (World.cell?_alloc_lt _ _ _ (World.block_lt_of_cell? _ _ (((HB.out.cell (World.block_lt_of_cell? w _ hw173_0)).trans hw173_0)))).trans (((HB.out.cell (World.block_lt_of_cell? w _ hw173_0)).trans hw173_0)), (World.cell?_alloc_lt _ _ _ (World.block_lt_of_cell? _ _ (((HB.out.cell (World.block_lt_of_cell? w _ hw173_1)).trans hw173_1)))).trans (((HB.out.cell (World.block_lt_of_cell? w _ hw173_1)).trans hw173_1)), (World.cell?_alloc_lt _ _ _ (World.block_lt_of_cell? _ _ (((HB.out.cell (World.block_lt_of_cell? w _ hw177_0)).trans hw177_0)))).trans (((HB.out.cell (World.block_lt_of_cell? w _ hw177_0)).trans hw177_0)), (World.cell?_alloc_lt _ _ _ (World.block_lt_of_cell? _ _ (((HB.out.cell (World.block_lt_of_cell? w _ hw177_1)).trans hw177_1)))).trans (((HB.out.cell (World.block_lt_of_cell? w _ hw177_1)).trans hw177_1))⟩ (fun hHeld => ?_)
        clear hK K
        refine norm_ (a' := ?_) ?_ ?_
        rotate_left
        ·show Act.put _ (some 33) _ = _
         simp only [Act.put, List.setIfInBounds_toArray, List.set_cons_zero, List.set_cons_succ, i64_w, i32_w]
         rfl
        refine one_ (i := 18) (N := some 34) #[true, true, true, true, true, true, true, true, true, true, true, true, true, true, true, true, true, true, true, false, false] rfl rfl (one_of HT_.out (by kernel_rfl)) (by decide) (fun K hK => ?_)
        refine Kd.S_append_step k53 (w0 := w) w.heap.size (by rfl) (.tmp 17) (.tmp 33) 30 53 (.agg #[(.string ⟨#[]⟩), (.slice none 0 0)]) 40 rfl Tryz.underlying30 info53 rfl (by decide) (by omega) u173001 x173001_1 (⟨(rd_T44 l0_1 x13_1).f0, y178⟩ : S53) [.string ((rd_T44 l0_1 x13_1).f0), .slice Ao20 y178.length co20] (fun _ => True) (fun k_ => some k_ = (.slice Ao20 y178.length co20 : Value).ownBlock) rfl rfl ?aP (fun k_ hk_ => ((Kd.R_mono (ok' := fun k_ => ((fun _ => True)) k_ ∧ some k_ ≠ (u173001 : Value).ownBlock) (Kd.R_apart' (HO180.out) (Kd.S_typed HO_173001.out) (by decide)) (fun k_ hk => ⟨trivial, hk.2⟩))).1 k_ hk_.symm) ?aF ?aO ?aB ?aS ?aL ?_
        (case aP => exact k53_mkM _ _ _ (⟨(rd_T44 l0_1 x13_1).f0, y178⟩ : S53) (Kd.R_mono (Kd.R_tight rfl (Kd.R_mono (ok' := fun k_ => ((fun _ => True)) k_ ∧ some k_ ≠ (u173001 : Value).ownBlock) (Kd.R_apart' (HO180.out) (Kd.S_typed HO_173001.out) (by decide)) (fun k_ hk => ⟨trivial, hk.2⟩))) (fun _ h_ => h_)))
        (case aB => exact (by repeat (first | (with_reducible first | exact HB.out | apply below_alloc | apply pw_below_drewN | apply below_drew1 | refine below_set ?_ GE170.out | refine below_set ?_ GE171.out | refine below_set ?_ GE172.out) | exact HB.out)))
        (case aF => exact (fun _ _ => trivial))
        (case aO => exact (by (with_reducible repeat (first | apply Kd.S_alloc | apply Kd.S_drewN | apply Kd.S_drew)); exact Kd.S_mono HO_173001.out (fun k_ hk => ⟨trivial, fun e_ => hk.2 e_⟩)))
        (case aS => exact (below_size (by repeat (first | (with_reducible first | exact HB.out | apply below_alloc | apply pw_below_drewN | apply below_drew1 | refine below_set ?_ GE170.out | refine below_set ?_ GE171.out | refine below_set ?_ GE172.out) | exact HB.out))))
        (case aL => have := LMc15.out; omega)
        intro v182 w21 ho hb hg hat
        rw [← Ny181.out] at ho
        have n0_ := Aside0.mk (blk_grown (g := gb170) (o := .cells #[.string a0_0, .slice (some ad173) l0_1.length c0_1, .string a0_2] 24 (0, 0)) (by (with_reducible repeat (first | refine blk_drewN ?_ _ | refine blk_drew ?_ | refine blk_alloc ?_ _)); exact BK170.out) hg (Kd.S_ne HO_173001.out BK170.out (by decide)))
        have n1_ := Aside0.mk (blk_grown (g := gb171) (o := .cells #[.string (⟨#[]⟩ : ByteArray), .slice none 0 0, .string (⟨#[]⟩ : ByteArray)] 32 (0, 0)) (by (with_reducible repeat (first | refine blk_drewN ?_ _ | refine blk_drew ?_ | refine blk_alloc ?_ _)); exact BK171.out) hg (Kd.S_ne HO_173001.out BK171.out (by decide)))
        have n2_ := Aside0.mk (blk_grown (g := gb172) (o := .cells #[.string a0_0, u173001, .string a0_2] 32 (0, 0)) (by (with_reducible repeat (first | refine blk_drewN ?_ _ | refine blk_drew ?_ | refine blk_alloc ?_ _)); exact BK172.out) hg (Kd.S_ne HO_173001.out BK172.out (by decide)))
        have n3_ := Aside0.mk (hb)
        have n4_ := Aside0.mk (ho)
        clear BK170
        clear BK171
        clear BK172
        clear HB
        clear HO_173001
        clear HO180
        have BK170 := n0_
        have BK171 := n1_
        have BK172 := n2_
        have HB := n3_
        have HO183 := n4_
        clear n0_ n1_ n2_ n3_ n4_
        clear ho hb hg hat
        obtain ⟨Ao22, co22, eo22⟩ := Kd.S_slice HO183.out
        (first | subst eo22 | (injection eo22 with f1_ f2_ f3_; have f4_ := f1_.symm; have f5_ := f3_.symm; clear f1_ f2_ f3_; subst f4_; subst f5_))
        refine hK.out _ _ ⟨(blk_cell BK172.out 0).trans rfl, (blk_cell BK172.out 1).trans rfl, (blk_cell BK172.out 2).trans rfl, (blk_cell BK170.out 0).trans rfl, (blk_cell BK170.out 1).trans rfl, (blk_cell BK170.out 2).trans rfl, ((HB.out.cell (World.block_lt_of_cell? w _ hw173_0)).trans hw173_0), ((HB.out.cell (World.block_lt_of_cell? w _ hw173_1)).trans hw173_1), ((HB.out.cell (World.block_lt_of_cell? w _ hw177_0)).trans hw177_0), ((HB.out.cell (World.block_lt_of_cell? w _ hw177_1)).trans hw177_1)⟩ (fun hHeld => ?_)
        clear hK K
        refine norm_ (a' := ?_) ?_ ?_
        rotate_left
        ·show Act.put _ (some 34) _ = _
         simp only [Act.put, List.setIfInBounds_toArray, List.set_cons_zero, List.set_cons_succ, i64_w, i32_w]
         rfl
        refine pure_ (i := 19) (N := some 35) (v := ?_) (a' := ?_) #[true, true, true, true, true, true, true, true, true, true, true, true, true, true, true, true, true, true, true, true, false] rfl rfl (any_of HT_.out (by kernel_rfl)) (fun _ _ _ h => h) (Or.inl ⟨by rfl, ?_⟩) ?_ ?_
        rotate_left
        ·intro w'
         go_simp
         with_reducible rfl
        rotate_left
        ·simp only [Act.put, List.setIfInBounds_toArray, List.set_cons_zero, List.set_cons_succ, i64_w, i32_w]
         rfl
        refine last_ (i := 20) (N := none) #[true, true, true, true, true, true, true, true, true, true, true, true, true, true, true, true, true, true, true, true, true] rfl rfl (one_of HT_.out (by kernel_rfl)) (by decide) (fun K hK => ?_)
        have hs23 : w21.cell? ⟨gb172, 1, none⟩ = some (u173001) := (blk_cell BK172.out 1).trans rfl
        have hfs23 := blk_frozen BK172.out 1
        have hns23_0 := NB170_172.out
        have hns23_1 := NB171_172.out
        have hms23_0 := NB172_170.out
        have hms23_1 := NB172_171.out
        refine skip_ (w1 := ?_) (by rfl) rfl ?_ ?_
        rotate_left
        ·go_simp
         rfl
        refine hK.out _ _ ?_
        clear hK K
        refine done_ (done_of HT_.out (by kernel_rfl)) ?_
        try go_wp2
        go_roundg k1
        case measure => have := HK1.out; omega
        case rel => exact ⟨(wrap64 (x13_1 + 1)), (y181), (.slice Ao22 y181.length co22), (by first | rfl | (simp; done) | (simp [bne_nil_isEmpty, beq_nil_isEmpty]; done) | (simp [*]; done)), H', ⟨by have := HK1.out; omega⟩, ⟨by (with_reducible repeat (first | apply Kd.S_alloc | apply Kd.S_drewN | apply Kd.S_drew)); exact Kd.S_mono (Kd.S_far (p := ⟨gb172, 1, none⟩) (Kd.S_types HO183.out BK172.out (by decide)) (fun _ hk => hk.2) (.slice Ao22 y181.length co22)) (fun _ hk => trivial)⟩, ⟨by (with_reducible repeat (first | refine blk_drewN ?_ _ | refine blk_drew ?_ | refine blk_alloc ?_ _)); refine blk_far ?_ NB170_172.out _; (with_reducible repeat (first | refine blk_drewN ?_ _ | refine blk_drew ?_ | refine blk_alloc ?_ _)); exact BK170.out⟩, ⟨by (with_reducible repeat (first | refine blk_drewN ?_ _ | refine blk_drew ?_ | refine blk_alloc ?_ _)); refine blk_far ?_ NB171_172.out _; (with_reducible repeat (first | refine blk_drewN ?_ _ | refine blk_drew ?_ | refine blk_alloc ?_ _)); exact BK171.out⟩, ⟨by (with_reducible repeat (first | refine blk_drewN ?_ _ | refine blk_drew ?_ | refine blk_alloc ?_ _)); refine blk_put (cs := #[.string a0_0, u173001, .string a0_2]) ?_ 1 _ rfl; (with_reducible repeat (first | refine blk_drewN ?_ _ | refine blk_drew ?_ | refine blk_alloc ?_ _)); exact BK172.out⟩, ⟨by repeat (first | (with_reducible first | exact HB.out | apply below_alloc | apply pw_below_drewN | apply below_drew1 | refine below_set ?_ GE170.out | refine below_set ?_ GE171.out | refine below_set ?_ GE172.out) | exact HB.out)⟩⟩
       ·rw [if_neg c15] at H
        exact absurd H (by simp)
      ·rw [if_neg c14] at H
       exact absurd H (by simp)
     ·rw [if_neg c13] at H
      exact absurd H (by simp)
    ·rw [if_neg c12] at H
     exact absurd H (by simp)
   ·rw [if_neg c11] at H
    have c11b0 : decide (x13_1 < (l0_1.length : Int)) = false := decide_eq_false c11
    clear c11
    simp only [Option.some.injEq, Prod.mk.injEq] at H
    obtain ⟨rfl, rfl, rfl⟩ := H
    have hnb24 := NB172_170.out
    have hnc24 := NB170_172.out
    have hnb25 := NB172_171.out
    have hnc25 := NB171_172.out
    have hcz26_0 : wr.cell? ⟨gb172, 0, none⟩ = some (.string a0_0) := (blk_cell BK172.out 0).trans rfl
    have hcz26_1 : wr.cell? ⟨gb172, 1, none⟩ = some (u173001) := (blk_cell BK172.out 1).trans rfl
    have hcz26_2 : wr.cell? ⟨gb172, 2, none⟩ = some (.string a0_2) := (blk_cell BK172.out 2).trans rfl
    have hfz26_0 := blk_frozen BK172.out 0
    have hfz26_1 := blk_frozen BK172.out 1
    have hfz26_2 := blk_frozen BK172.out 2
    have hnb27 := NB171_170.out
    have hnc27 := NB170_171.out
    have hcz28_0 : wr.cell? ⟨gb171, 0, none⟩ = some (.string (⟨#[]⟩ : ByteArray)) := (blk_cell BK171.out 0).trans rfl
    have hcz28_1 : wr.cell? ⟨gb171, 1, none⟩ = some (.slice none 0 0) := (blk_cell BK171.out 1).trans rfl
    have hcz28_2 : wr.cell? ⟨gb171, 2, none⟩ = some (.string (⟨#[]⟩ : ByteArray)) := (blk_cell BK171.out 2).trans rfl
    have hfz28_0 := blk_frozen BK171.out 0
    have hfz28_1 := blk_frozen BK171.out 1
    have hfz28_2 := blk_frozen BK171.out 2
    obtain ⟨Ao29, co29, eo29⟩ := Kd.S_slice HO_173001.out
    subst eo29
    go_wp2
    refine bodyPost_ret (results_cell_row rfl _ _ gb171 32 #[.string a0_0, .slice Ao29 x173001_1.length co29, .string a0_2] (0, 0) _ rfl (by (with_reducible repeat (first | refine blk_drewN ?_ _ | refine blk_drew ?_ | refine blk_alloc ?_ _)); refine blk_put (cs := #[.string a0_0, .slice Ao29 x173001_1.length co29, .string (⟨#[]⟩ : ByteArray)]) ?_ 2 _ rfl; (with_reducible repeat (first | refine blk_drewN ?_ _ | refine blk_drew ?_ | refine blk_alloc ?_ _)); refine blk_put (cs := #[.string a0_0, .slice none 0 0, .string (⟨#[]⟩ : ByteArray)]) ?_ 1 _ rfl; (with_reducible repeat (first | refine blk_drewN ?_ _ | refine blk_drew ?_ | refine blk_alloc ?_ _)); refine blk_put (cs := #[.string (⟨#[]⟩ : ByteArray), .slice none 0 0, .string (⟨#[]⟩ : ByteArray)]) ?_ 0 _ rfl; (with_reducible repeat (first | refine blk_drewN ?_ _ | refine blk_drew ?_ | refine blk_alloc ?_ _)); exact BK171.out) Tryz.underlying32 rfl (by kernel_rfl)) rfl ?_
    exact ⟨_, by first | rfl | (simp [errW_none, errW_some] <;> rfl) | (simp [*, errW_none, errW_some] <;> rfl), by (with_reducible repeat (first | apply Kd.S_alloc | apply Kd.S_drewN | apply Kd.S_drew)); exact Kd.S_mono (Kd.S_far (p := ⟨gb171, 2, none⟩) (Kd.S_far (p := ⟨gb171, 1, none⟩) (Kd.S_far (p := ⟨gb171, 0, none⟩) (Kd.S_types HO_173001.out BK171.out (by decide)) (fun _ hk => hk.2) (.string a0_0)) (fun _ hk => hk.2) (.slice Ao29 x173001_1.length co29)) (fun _ hk => hk.2) (.string a0_2)) (fun _ hk => trivial), by repeat (first | (with_reducible first | exact HB.out | apply below_alloc | apply pw_below_drewN | apply below_drew1 | refine below_set ?_ GE170.out | refine below_set ?_ GE171.out | refine below_set ?_ GE172.out) | exact HB.out)⟩
end Go.Proofs.YtknmbalhbecdhaaGreatDoor.Print
end
