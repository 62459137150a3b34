/- Texts of the proof of TreePrints, put together: Shelf Rune XBase TabsU8 Args Print0 LArgs Sq Print1 Print2 Great RName Print3 LParse0 TBegin TEnds TLine LEq TParse Print4. -/
import Derived.Shelf.Unicode.ValidAny
import Derived.Shelf.Strings.Builder1
import Derived.Shelf.Strings.Builder2
import Derived.Shelf.Small.Utf8
import Derived.Shelf.Small.Strs
import Derived.Shelf.Strings.BuilderF
import Derived.Shelf.Strings.BuilderK
import Derived.Shelf.Strings.Builder2Cap
import Derived.Shelf.Strings.Search1
import Derived.Shelf.Strings.Search2
import Derived.Shelf.Strings.Search3
import Derived.Shelf.Strings.Count
import Derived.Shelf.LaysM
import Derived.Shelf.Strings.Shaped
import Derived.Shelf.Strings.Prefix
import Derived.Shelf.Strings.Runes
import Derived.Shelf.Strings.IndexAny
import Derived.Shelf.Strings.AsciiSet
import Derived.Shelf.Strings.IndexAnyAll
import Derived.Shelf.Unicode.DecodeSlow
import Derived.Shelf.Unicode.DecodeAny
import Derived.Shelf.Strings.BuilderCap
import Derived.Shelf.Slices.Equal
import Derived.Shelf.Slices.Empties2
import Derived.Test.YtdojmdbaiddkgaaGreatDoorProg
import Derived.WalkKit
import Derived.WalkSpells
import Derived.Laws.Runes
import Derived.Laws.RangeAny
import Derived.Laws.RangeString
import Derived.Lib.IndexAny
import Derived.Lib.SpaceUEq
import Derived.Lib.RuneCount
import Derived.Lib.QuoteLoop
import Derived.Lib.Hide
import Derived.Lib.OthersKept
import Derived.Lib.DecodeN
import Derived.BigQuiet
import Derived.IntWalk
import Derived.Deep.QuietTactic
import Derived.Test.YtdojmdbaiddkgaaGreatDoorRows
import Derived.Lib.LaidU8T
import Derived.PinnedBridge
import Derived.MakeChecks
import Derived.ProofKit
import Derived.SliceStrings
import Derived.SizedLaws
import Derived.Deep.Slices
import Derived.Below
import Derived.Deep.Draws
import Derived.Deep.AppendLies
import Derived.Maps.AppendAt
import Derived.OwnWalk
import Derived.Laws.BytesArg
import Derived.Laws.MakeOwn
import Derived.Laws.OwnMore
import Derived.Deep.OwnRows
import Derived.Tactics
import Derived.Lib.ConvBytes
import Derived.Laws.Slices
import Derived.KernelRfl
import Derived.RowKit3
import Derived.Deep.LoopGhost
import Derived.WideLaws
import Derived.Deep.DeepCutAuto
import Derived.Deep.CutBlock
import Derived.Deep.RegionHeld3
import Derived.Laws.Rows
import Derived.Lib.AppendStr
import Derived.ArgAppend
import Derived.Laws.IdiomCopy
import Derived.OrdersHeld
import Derived.Laws.BitsLemmas
import Derived.RowKit
import Derived.Test.YtdojmdbaiddkgaaGreatDoorWWords
import Derived.Test.YtdojmdbaiddkgaaGreatDoorWLast
import Derived.Test.YtdojmdbaiddkgaaGreatDoorWTab
import Derived.Test.YtdojmdbaiddkgaaGreatDoorWApart
import Derived.Test.YtdojmdbaiddkgaaGreatDoorWRepsOne
import Derived.Test.YtdojmdbaiddkgaaGreatDoorWGuard
import Derived.Laws.IdiomStrings
import Derived.Outline
import Derived.Deep.RegionWith
import Derived.RegionCalls
import Derived.Laws.StructEq
section
namespace Go.Proofs.YtdojmdbaiddkgaaGreatDoor.Print
open Go.RowKit
variable {P : Program} {ops : Array Oper} {rest : List Oper} {o : Oper} {a : Act} {Q : Exit → Act → World → Prop} {W : World}
theorem gate_callee {f : FuncId} {xs : Array Operand} {ts : Array TypeId} (_h : o.op = .call { callee := .value (.func f), args := xs, argTypes := ts }) (h : wpList P ops Q (o :: rest) a W) : wpList P ops Q (o :: rest) a W := h
theorem gate_builtin {b : Builtin} {xs : Array Operand} {ts : Array TypeId} (_h : o.op = .call { callee := .builtin b, args := xs, argTypes := ts }) (h : wpList P ops Q (o :: rest) a W) : wpList P ops Q (o :: rest) a W := h
def mx (a b : Int) : Int := if a < b then b else a
theorem maxI (ts : Array TypeId) (ty : TypeId) (k k' : IntKind) (x y : Int) : Builtin.max_ ts ty #[.int k x, .int k' y] = pure (.int k (if x < y then y else x)) := by simp [Builtin.max_, Builtin.max2]
end Go.Proofs.YtdojmdbaiddkgaaGreatDoor.Print
namespace Go.Proofs.YtdojmdbaiddkgaaGreatDoor.Print
open Go.RowKit Go.Proofs.YtdojmdbaiddkgaaGreatDoorW.PrintWords
variable {α β : Type} {d : Kd α} {e base N : Nat} {w1 W : World} {u v : Value} {xs : List α} {ok : Nat → Prop}
theorem Kd.R_old (hu : d.R e W base ok u xs) (hb : Below W.heap.size W w1) : d.R e w1 base (fun k => ok k ∧ k < W.heap.size) u xs :=
  Kd.R_mono (Kd.R_below (Kd.R_bound hu) hb) (fun _ h => ⟨h.1, h.2.2.1⟩)
theorem Kd.R_told (h : d.R e w1 base (fun k => ok k ∧ k < N) u xs) (hbase : ∀ k, v.ownBlock = some k → N ≤ k) : d.R e w1 base (fun k => (ok k ∧ some k ≠ v.ownBlock) ∧ k < N) u xs :=
  Kd.R_mono h (fun k hk => ⟨⟨hk.1, fun e => Nat.lt_irrefl _ (Nat.lt_of_lt_of_le hk.2 (hbase k e.symm))⟩, hk.2⟩)
end Go.Proofs.YtdojmdbaiddkgaaGreatDoor.Print
end
section
namespace Go.Proofs
open Go.Shelf
def Tryz.lays170_ren : Go.Shelf.Ren := ⟨fun | 170 => 39 | n => n, fun | 70 => 81 | 3 => 3 | 0 => 0 | 72 => 84 | 37 => 82 | 5 => 5 | n => n, fun | n => n⟩
theorem Tryz.lays170 : Go.Proofs.Lays.n170 Tryz.prog Tryz.lays170_ren := {
  mixed := by kernel_rfl
  f170 := Tryz.func39.trans (congrArg some (by kernel_rfl))
  t0 := Tryz.underlying0
  a0 := Tryz.isAgg0
  z0 := Tryz.sizeOf0
  v0 := Tryz.zeroValue0
  t3 := Tryz.underlying3
  a3 := Tryz.isAgg3
  z3 := Tryz.sizeOf3
  v3 := Tryz.zeroValue3
  t37 := Tryz.underlying82
  a37 := Tryz.isAgg82
  z37 := Tryz.sizeOf82
  v37 := Tryz.zeroValue82
  t70 := Tryz.underlying81
  a70 := Tryz.isAgg81
  z70 := Tryz.sizeOf81
  v70 := Tryz.zeroValue81
  t72 := Tryz.underlying84
  a72 := Tryz.isAgg84
  z72 := Tryz.sizeOf84
  v72 := Tryz.zeroValue84 }
open Go.RowKit in
def Tryz.lays169_ren : Go.Shelf.Ren := ⟨fun | 169 => 41 | n => n, fun | 70 => 81 | 9 => 9 | 0 => 0 | 72 => 84 | 37 => 82 | 127 => 118 | 3 => 3 | 5 => 5 | n => n, fun | n => n⟩
theorem Tryz.lays169 : Go.Proofs.Lays.n169 Tryz.prog Tryz.lays169_ren := {
  mixed := by kernel_rfl
  f169 := Tryz.func41.trans (congrArg some (by kernel_rfl))
  t0 := Tryz.underlying0
  a0 := Tryz.isAgg0
  z0 := Tryz.sizeOf0
  v0 := Tryz.zeroValue0
  t3 := Tryz.underlying3
  a3 := Tryz.isAgg3
  z3 := Tryz.sizeOf3
  v3 := Tryz.zeroValue3
  t9 := Tryz.underlying9
  a9 := Tryz.isAgg9
  z9 := Tryz.sizeOf9
  v9 := Tryz.zeroValue9
  t37 := Tryz.underlying82
  a37 := Tryz.isAgg82
  z37 := Tryz.sizeOf82
  v37 := Tryz.zeroValue82
  t70 := Tryz.underlying81
  a70 := Tryz.isAgg81
  z70 := Tryz.sizeOf81
  v70 := Tryz.zeroValue81
  t72 := Tryz.underlying84
  a72 := Tryz.isAgg84
  z72 := Tryz.sizeOf84
  v72 := Tryz.zeroValue84
  t127 := Tryz.underlying118
  a127 := Tryz.isAgg118
  z127 := Tryz.sizeOf118
  v127 := Tryz.zeroValue118 }
theorem Tryz.Builder_Extra_169 : Builder.Extra Tryz.prog Tryz.lays169_ren := {
  sizeBuilder := by kernel_rfl
  liesBuilder := by kernel_rfl
  t5 := Tryz.underlying5
  a5 := Tryz.isAgg5
  z5 := Tryz.sizeOf5
  v5 := Tryz.zeroValue5
  infoByte := by kernel_rfl
  cellsByte := by kernel_rfl
  sizeByte := by kernel_rfl
  neB5 := by decide }
open Go.RowKit in
open Go.RowKit in
open Go.RowKit in
open Go.RowKit in
open Go.RowKit in
def Tryz.lays119_ren : Go.Shelf.Ren := ⟨fun | 119 => 97 | n => n, fun | 21 => 21 | 4 => 4 | n => n, fun | n => n⟩
theorem Tryz.lays119 : Go.Proofs.Lays.n119 Tryz.prog Tryz.lays119_ren := {
  mixed := by kernel_rfl
  f119 := Tryz.func97.trans (congrArg some (by kernel_rfl))
  t4 := Tryz.underlying4
  a4 := Tryz.isAgg4
  z4 := Tryz.sizeOf4
  v4 := Tryz.zeroValue4
  t21 := Tryz.underlying21
  a21 := Tryz.isAgg21
  z21 := Tryz.sizeOf21
  v21 := Tryz.zeroValue21 }
/-- utf8.ValidRune: "ValidRune reports whether r can be legally encoded as UTF-8. Code points that are out of range or a surrogate half are illegal.": IT RETURNS 'Lib.validRune r'; the world is as it was. (LAID: no walk: one application.) -/
theorem Tryz.utf8_ValidRune (r : Int) (w : World) :
    Calls Tryz.prog 97 #[.int .i32 r] w fun e w' => e = .returned (.bool (Lib.validRune r)) ∧ w' = w := Any.utf8_ValidRune Tryz.lays119 r w
def Tryz.lays137_ren : Go.Shelf.Ren := ⟨fun | 137 => 90 | 217 => 100 | 266 => 107 | n => n, fun | 9 => 9 | 5 => 5 | 3 => 3 | n => n, fun | n => n⟩
theorem Tryz.lays137 : Go.Proofs.Lays.n137 Tryz.prog Tryz.lays137_ren := {
  mixed := by kernel_rfl
  f137 := Tryz.func90.trans (congrArg some (by kernel_rfl))
  f217 := Tryz.func100.trans (congrArg some (by kernel_rfl))
  f266 := Tryz.func107.trans (congrArg some (by kernel_rfl))
  t3 := Tryz.underlying3
  a3 := Tryz.isAgg3
  z3 := Tryz.sizeOf3
  v3 := Tryz.zeroValue3
  t5 := Tryz.underlying5
  a5 := Tryz.isAgg5
  z5 := Tryz.sizeOf5
  v5 := Tryz.zeroValue5
  t9 := Tryz.underlying9
  a9 := Tryz.isAgg9
  z9 := Tryz.sizeOf9
  v9 := Tryz.zeroValue9 }
open Go.RowKit in
/-- strings.IndexByte: "IndexByte returns the index of the first instance of c in s, or -1 if c is not present in s.": IT RETURNS 'Lib.indexByte s c'; the world is as it was. (LAID: no walk: one application.) -/
theorem Tryz.strings_IndexByte (s : ByteArray) (c : Int) (w : World) :
    Calls Tryz.prog 90 #[.string s, .int .u8 c] w fun e w' => e = .returned (.int .i64 (Lib.indexByte s.data.toList c.toNat.toUInt8)) ∧ w' = w := Any.strings_IndexByte Tryz.lays137 s c w
open Go.RowKit in
/-- (*strings.Builder).Len: "Len returns the number of accumulated bytes; b.Len() == len(b.String()).": the world is as it was. (THE FORM '_f': 'Lib.IsBuilderF'.) (LAID: no walk: one application.) -/
theorem Tryz.Builder_Len_f (B b : Nat) (bs : List Value) (w : World) (h : Lib.IsBuilderF 84 5 B b bs w) :
    Calls Tryz.prog 39 #[.pointer (some ⟨b, 0, none⟩)] w fun e w' => e = .returned (.int .i64 bs.length) ∧ w' = w := Any.Builder_Len_f Tryz.lays170 B b bs w h
open Go.RowKit in
open Go.RowKit in
open Go.RowKit in
open Go.RowKit in
open Go.RowKit in
open Go.RowKit in
/-- (*strings.Builder).String: "String returns the accumulated string.": WHATEVER THE BUILDER HOLDS; THE FORM '_k': OVER 'Lib.IsBuilderF' (a builder that 'String()' may have read), AND WITH THE FRAME THAT REACHES ABOVE THE BUILDER: 'Lib.OthersKept': every block that is not b and is no row of uint8's stands as it stood: the iterator of a range among them. (LAID: no walk: one application.) -/
theorem Tryz.Builder_String_any_k (B b : Nat) (l : List UInt8) (w : World) (h : Lib.IsBuilderF 84 5 B b (Lib.byteCells l) w) (hBw : B ≤ w.heap.size) :
    Calls Tryz.prog 41 #[.pointer (some ⟨b, 0, none⟩)] w fun e w' => e = .returned (.string ⟨l.toArray⟩) ∧ (Lib.IsBuilderF 84 5 B b (Lib.byteCells l) w' ∧ Below B w w' ∧ Lib.OthersKept 5 (some b) w w') := Any.Builder_String_any_k Tryz.lays169 Tryz.Builder_Extra_169 B b l w h hBw
open Go.RowKit in
open Go.RowKit in
open Go.RowKit Go.Lib in
open Go.RowKit Go.Lib in
open Go.RowKit Go.Lib in
open Go.RowKit Go.Lib in
open Go.RowKit Go.Lib in
open Go.RowKit Go.Lib in
open Go.RowKit Go.Lib in
open Go.RowKit Go.Lib in
def Tryz.lays138_ren : Go.Shelf.Ren := ⟨fun | 138 => 169 | 195 => 170 | 218 => 171 | 143 => 172 | 219 => 173 | 217 => 100 | 225 => 99 | 224 => 98 | 267 => 174 | 266 => 107 | 314 => 175 | n => n, fun | 9 => 9 | 3 => 3 | 4 => 4 | 5 => 5 | 0 => 0 | 46 => 128 | 146 => 237 | 51 => 148 | n => n, fun | 1 => 2 | n => n⟩
theorem Tryz.lays138 : Go.Proofs.Lays.n138 Tryz.prog Tryz.lays138_ren := {
  mixed := by kernel_rfl
  f138 := Tryz.func169.trans (congrArg some (by kernel_rfl))
  f143 := Tryz.func172.trans (congrArg some (by kernel_rfl))
  f195 := Tryz.func170.trans (congrArg some (by kernel_rfl))
  f217 := Tryz.func100.trans (congrArg some (by kernel_rfl))
  f218 := Tryz.func171.trans (congrArg some (by kernel_rfl))
  f219 := Tryz.func173.trans (congrArg some (by kernel_rfl))
  f224 := Tryz.func98.trans (congrArg some (by kernel_rfl))
  f225 := Tryz.func99.trans (congrArg some (by kernel_rfl))
  f266 := Tryz.func107.trans (congrArg some (by kernel_rfl))
  f267 := Tryz.func174.trans (congrArg some (by kernel_rfl))
  f314 := Tryz.func175.trans (congrArg some (by kernel_rfl))
  t0 := Tryz.underlying0
  a0 := Tryz.isAgg0
  z0 := Tryz.sizeOf0
  v0 := Tryz.zeroValue0
  t3 := Tryz.underlying3
  a3 := Tryz.isAgg3
  z3 := Tryz.sizeOf3
  v3 := Tryz.zeroValue3
  t4 := Tryz.underlying4
  a4 := Tryz.isAgg4
  z4 := Tryz.sizeOf4
  v4 := Tryz.zeroValue4
  t5 := Tryz.underlying5
  a5 := Tryz.isAgg5
  z5 := Tryz.sizeOf5
  v5 := Tryz.zeroValue5
  t9 := Tryz.underlying9
  a9 := Tryz.isAgg9
  z9 := Tryz.sizeOf9
  v9 := Tryz.zeroValue9
  t46 := Tryz.underlying128
  a46 := Tryz.isAgg128
  z46 := Tryz.sizeOf128
  v46 := Tryz.zeroValue128
  t51 := Tryz.underlying148
  a51 := Tryz.isAgg148
  z51 := Tryz.sizeOf148
  v51 := Tryz.zeroValue148
  t146 := Tryz.underlying237
  a146 := Tryz.isAgg237
  z146 := Tryz.sizeOf237
  v146 := Tryz.zeroValue237
  g1 := by kernel_rfl }
open Go.RowKit Go.Lib in
/-- strings.Count AT A substr OF ONE BYTE ('hp'): "Count counts the number of non-overlapping instances of substr in s.": IT RETURNS 'Lib.countByte s (that byte)'; the world is as it was. ✋ NO CONTRACT HERE YET at an empty substr (utf8.RuneCountInString) or at a longer one (a loop over strings.Index). (LAID: no walk: one application.) -/
theorem Tryz.strings_Count_one (s : ByteArray) (c : UInt8) (w : World) :
    Calls Tryz.prog 169 #[.string s, .string ⟨#[c]⟩] w fun e w' => e = .returned (.int .i64 (Lib.countByte s.data.toList c)) ∧ w' = w := Any.strings_Count_one Tryz.lays138 s c w
open Go.RowKit Go.Lib in
open Go.RowKit Go.Lib in
open Go.RowKit Go.Lib in
open Go.RowKit Go.Lib in
open Go.RowKit Go.Lib in
open Go.RowKit Go.Lib in
def Tryz.lays207_ren : Go.Shelf.Ren := ⟨fun | 207 => 108 | n => n, fun | 9 => 9 | 4 => 4 | 3 => 3 | n => n, fun | n => n⟩
open Go.RowKit Go.Lib in
def Tryz.lays209_ren : Go.Shelf.Ren := ⟨fun | 209 => 101 | 207 => 108 | n => n, fun | 9 => 9 | 4 => 4 | 3 => 3 | n => n, fun | n => n⟩
open Go.RowKit Go.Lib in
def Tryz.lays102_ren : Go.Shelf.Ren := ⟨fun | 102 => 91 | 209 => 101 | 207 => 108 | n => n, fun | 9 => 9 | 4 => 4 | 3 => 3 | n => n, fun | n => n⟩
open Go.RowKit Go.Lib in
def Tryz.lays152_ren : Go.Shelf.Ren := ⟨fun | 152 => 82 | 137 => 90 | 119 => 97 | 224 => 98 | 225 => 99 | 217 => 100 | 266 => 107 | n => n, fun | 9 => 9 | 21 => 21 | 3 => 3 | 4 => 4 | 5 => 5 | 0 => 0 | 46 => 128 | n => n, fun | n => n⟩
theorem Tryz.lays152 : Go.Proofs.Lays.n152 Tryz.prog Tryz.lays152_ren := {
  mixed := by kernel_rfl
  f119 := Tryz.func97.trans (congrArg some (by kernel_rfl))
  f137 := Tryz.func90.trans (congrArg some (by kernel_rfl))
  f152 := Tryz.func82.trans (congrArg some (by kernel_rfl))
  f217 := Tryz.func100.trans (congrArg some (by kernel_rfl))
  f224 := Tryz.func98.trans (congrArg some (by kernel_rfl))
  f225 := Tryz.func99.trans (congrArg some (by kernel_rfl))
  f266 := Tryz.func107.trans (congrArg some (by kernel_rfl))
  t0 := Tryz.underlying0
  a0 := Tryz.isAgg0
  z0 := Tryz.sizeOf0
  v0 := Tryz.zeroValue0
  t3 := Tryz.underlying3
  a3 := Tryz.isAgg3
  z3 := Tryz.sizeOf3
  v3 := Tryz.zeroValue3
  t4 := Tryz.underlying4
  a4 := Tryz.isAgg4
  z4 := Tryz.sizeOf4
  v4 := Tryz.zeroValue4
  t5 := Tryz.underlying5
  a5 := Tryz.isAgg5
  z5 := Tryz.sizeOf5
  v5 := Tryz.zeroValue5
  t9 := Tryz.underlying9
  a9 := Tryz.isAgg9
  z9 := Tryz.sizeOf9
  v9 := Tryz.zeroValue9
  t21 := Tryz.underlying21
  a21 := Tryz.isAgg21
  z21 := Tryz.sizeOf21
  v21 := Tryz.zeroValue21
  t46 := Tryz.underlying128
  a46 := Tryz.isAgg128
  z46 := Tryz.sizeOf128
  v46 := Tryz.zeroValue128 }
open Go.RowKit Go.Lib in
theorem Tryz.strings_IndexRune_ascii (s : ByteArray) (r : Int) (w : World) (h0 : 0 ≤ r) (h1 : r < 128) :
    Calls Tryz.prog 82 #[.string s, .int .i32 r] w fun e w' => e = .returned (.int .i64 (Lib.indexByte s.data.toList r.toNat.toUInt8)) ∧ w' = w := Any.strings_IndexRune_ascii Tryz.lays152 s r w h0 h1
open Go.RowKit Go.Lib in
def Tryz.lays226_ren : Go.Shelf.Ren := ⟨fun | 226 => 83 | n => n, fun | 3 => 3 | 4 => 4 | n => n, fun | n => n⟩
theorem Tryz.lays226 : Go.Proofs.Lays.n226 Tryz.prog Tryz.lays226_ren := {
  mixed := by kernel_rfl
  f226 := Tryz.func83.trans (congrArg some (by kernel_rfl))
  t3 := Tryz.underlying3
  a3 := Tryz.isAgg3
  z3 := Tryz.sizeOf3
  v3 := Tryz.zeroValue3
  t4 := Tryz.underlying4
  a4 := Tryz.isAgg4
  z4 := Tryz.sizeOf4
  v4 := Tryz.zeroValue4 }
open Go.RowKit Go.Lib in
theorem Tryz.strings_shouldUseASCIISet (n : Int) (w : World) :
    Calls Tryz.prog 83 #[.int .i64 n] w fun e w' => e = .returned (.bool (decide (8 < n))) ∧ w' = w := Any.strings_shouldUseASCIISet Tryz.lays226 n w
def Tryz.lays153_ren : Go.Shelf.Ren := ⟨fun | 153 => 66 | 152 => 82 | 226 => 83 | 227 => 84 | 228 => 85 | 137 => 90 | 119 => 97 | 224 => 98 | 225 => 99 | 217 => 100 | 266 => 107 | n => n, fun | 9 => 9 | 3 => 3 | 4 => 4 | 5 => 5 | 21 => 21 | 117 => 135 | 116 => 134 | 0 => 0 | 46 => 128 | 124 => 164 | n => n, fun | n => n⟩
theorem Tryz.lays153 : Go.Proofs.Lays.n153 Tryz.prog Tryz.lays153_ren := {
  mixed := by kernel_rfl
  f119 := Tryz.func97.trans (congrArg some (by kernel_rfl))
  f137 := Tryz.func90.trans (congrArg some (by kernel_rfl))
  f152 := Tryz.func82.trans (congrArg some (by kernel_rfl))
  f153 := Tryz.func66.trans (congrArg some (by kernel_rfl))
  f217 := Tryz.func100.trans (congrArg some (by kernel_rfl))
  f224 := Tryz.func98.trans (congrArg some (by kernel_rfl))
  f225 := Tryz.func99.trans (congrArg some (by kernel_rfl))
  f226 := Tryz.func83.trans (congrArg some (by kernel_rfl))
  f227 := Tryz.func84.trans (congrArg some (by kernel_rfl))
  f228 := Tryz.func85.trans (congrArg some (by kernel_rfl))
  f266 := Tryz.func107.trans (congrArg some (by kernel_rfl))
  t0 := Tryz.underlying0
  a0 := Tryz.isAgg0
  z0 := Tryz.sizeOf0
  v0 := Tryz.zeroValue0
  t3 := Tryz.underlying3
  a3 := Tryz.isAgg3
  z3 := Tryz.sizeOf3
  v3 := Tryz.zeroValue3
  t4 := Tryz.underlying4
  a4 := Tryz.isAgg4
  z4 := Tryz.sizeOf4
  v4 := Tryz.zeroValue4
  t5 := Tryz.underlying5
  a5 := Tryz.isAgg5
  z5 := Tryz.sizeOf5
  v5 := Tryz.zeroValue5
  t9 := Tryz.underlying9
  a9 := Tryz.isAgg9
  z9 := Tryz.sizeOf9
  v9 := Tryz.zeroValue9
  t21 := Tryz.underlying21
  a21 := Tryz.isAgg21
  z21 := Tryz.sizeOf21
  v21 := Tryz.zeroValue21
  t46 := Tryz.underlying128
  a46 := Tryz.isAgg128
  z46 := Tryz.sizeOf128
  v46 := Tryz.zeroValue128
  t116 := Tryz.underlying134
  a116 := Tryz.isAgg134
  z116 := Tryz.sizeOf134
  t117 := Tryz.underlying135
  a117 := Tryz.isAgg135
  z117 := Tryz.sizeOf135
  v117 := Tryz.zeroValue135
  t124 := Tryz.underlying164
  a124 := Tryz.isAgg164
  z124 := Tryz.sizeOf164
  v124 := Tryz.zeroValue164 }
open Go.RowKit Go.Lib in
open Go.RowKit Go.Lib in
open Go.RowKit Go.Lib in
open Go.RowKit Go.Lib in
open Go.RowKit Go.Lib in
open Go.RowKit Go.Lib in
theorem Tryz.strings_IndexAny_long (hv116 : ∀ w, (zeroValue 134).run Tryz.prog w = .ok (.agg (Array.replicate 256 (.bool false))) w) (s chars : ByteArray) (w : World) (h2 : 2 ≤ chars.size) (h8 : 8 < s.size) (hs : s.size < 4294967281) (hcs : chars.size < 4294967281) (hascii : ∀ (j : Nat) b, chars.data.toList[j]? = some b → b.toNat < 128) :
    Calls Tryz.prog 66 #[.string s, .string chars] w fun e w' => e = .returned (.int .i64 (Lib.indexAny s.data.toList chars.data.toList)) ∧ w' = ((w.alloc (.cells (Lib.setCells chars.data.toList) 134)).alloc (.cells (Lib.setCells chars.data.toList) 134)) := Any.strings_IndexAny_long Tryz.lays153 hv116 (by kernel_rfl) s chars w h2 h8 hs hcs hascii
open Go.RowKit Go.Lib in
def Tryz.lays150_ren : Go.Shelf.Ren := ⟨fun | 150 => 38 | 153 => 66 | 152 => 82 | 226 => 83 | 227 => 84 | 228 => 85 | 137 => 90 | 119 => 97 | 224 => 98 | 225 => 99 | 217 => 100 | 266 => 107 | n => n, fun | 9 => 9 | 4 => 4 | 3 => 3 | 5 => 5 | 21 => 21 | 117 => 135 | 116 => 134 | 0 => 0 | 46 => 128 | 124 => 164 | n => n, fun | n => n⟩
open Go.RowKit Go.Lib in
open Go.RowKit Go.Lib in
open Go.RowKit Go.Lib in
open Go.RowKit Go.Lib in
def Tryz.lays197_ren : Go.Shelf.Ren := ⟨fun | 197 => 67 | 260 => 86 | n => n, fun | 9 => 9 | 21 => 21 | 3 => 3 | 4 => 4 | 5 => 5 | 105 => 116 | 119 => 124 | 0 => 0 | 46 => 128 | 139 => 127 | 138 => 126 | n => n, fun | 3 => 0 | 4 => 1 | n => n⟩
theorem Tryz.lays197 : Go.Proofs.Lays.n197 Tryz.prog Tryz.lays197_ren := {
  mixed := by kernel_rfl
  f197 := Tryz.func67.trans (congrArg some (by kernel_rfl))
  f260 := Tryz.func86.trans (congrArg some (by kernel_rfl))
  t0 := Tryz.underlying0
  a0 := Tryz.isAgg0
  z0 := Tryz.sizeOf0
  v0 := Tryz.zeroValue0
  t3 := Tryz.underlying3
  a3 := Tryz.isAgg3
  z3 := Tryz.sizeOf3
  v3 := Tryz.zeroValue3
  t4 := Tryz.underlying4
  a4 := Tryz.isAgg4
  z4 := Tryz.sizeOf4
  v4 := Tryz.zeroValue4
  t5 := Tryz.underlying5
  a5 := Tryz.isAgg5
  z5 := Tryz.sizeOf5
  v5 := Tryz.zeroValue5
  t9 := Tryz.underlying9
  a9 := Tryz.isAgg9
  z9 := Tryz.sizeOf9
  v9 := Tryz.zeroValue9
  t21 := Tryz.underlying21
  a21 := Tryz.isAgg21
  z21 := Tryz.sizeOf21
  v21 := Tryz.zeroValue21
  t46 := Tryz.underlying128
  a46 := Tryz.isAgg128
  z46 := Tryz.sizeOf128
  v46 := Tryz.zeroValue128
  t105 := Tryz.underlying116
  a105 := Tryz.isAgg116
  z105 := Tryz.sizeOf116
  v105 := Tryz.zeroValue116
  t119 := Tryz.underlying124
  a119 := Tryz.isAgg124
  z119 := Tryz.sizeOf124
  t138 := Tryz.underlying126
  a138 := Tryz.isAgg126
  z138 := Tryz.sizeOf126
  v138 := Tryz.zeroValue126
  t139 := Tryz.underlying127
  a139 := Tryz.isAgg127
  z139 := Tryz.sizeOf127
  v139 := Tryz.zeroValue127
  g3 := by kernel_rfl
  g4 := by kernel_rfl }
open Go.RowKit Go.Lib in
/-- **unicode/utf8.DecodeRuneInString AT EVERY STRING.** (LAID: no walk: one application.) -/
theorem Tryz.utf8_DecodeRuneInString (s : ByteArray) (w : World) (hT : Lib.Utf8Tabs 0 1 w) :
    Calls Tryz.prog 67 #[.string s] w fun e w' => e = .returned (.tuple #[.int .i32 (Lib.decodeGo s).1, .int .i64 (Lib.decodeGo s).2]) ∧ Below w.heap.size w w' := Any.utf8_DecodeRuneInString Tryz.lays197 s w hT
open Go.RowKit Go.Lib in
open Go.RowKit Go.Lib in
open Go.RowKit Go.Lib in
def Tryz.lays196_ren : Go.Shelf.Ren := ⟨fun | 196 => 50 | 259 => 76 | n => n, fun | 9 => 9 | 4 => 4 | 3 => 3 | 5 => 5 | 12 => 12 | 119 => 124 | 0 => 0 | 46 => 128 | 139 => 127 | 138 => 126 | 53 => 142 | n => n, fun | 3 => 0 | 4 => 1 | n => n⟩
theorem Tryz.lays196 : Go.Proofs.Lays.n196 Tryz.prog Tryz.lays196_ren := {
  mixed := by kernel_rfl
  f196 := Tryz.func50.trans (congrArg some (by kernel_rfl))
  f259 := Tryz.func76.trans (congrArg some (by kernel_rfl))
  t0 := Tryz.underlying0
  a0 := Tryz.isAgg0
  z0 := Tryz.sizeOf0
  v0 := Tryz.zeroValue0
  t3 := Tryz.underlying3
  a3 := Tryz.isAgg3
  z3 := Tryz.sizeOf3
  v3 := Tryz.zeroValue3
  t4 := Tryz.underlying4
  a4 := Tryz.isAgg4
  z4 := Tryz.sizeOf4
  v4 := Tryz.zeroValue4
  t5 := Tryz.underlying5
  a5 := Tryz.isAgg5
  z5 := Tryz.sizeOf5
  v5 := Tryz.zeroValue5
  t9 := Tryz.underlying9
  a9 := Tryz.isAgg9
  z9 := Tryz.sizeOf9
  v9 := Tryz.zeroValue9
  t12 := Tryz.underlying12
  a12 := Tryz.isAgg12
  z12 := Tryz.sizeOf12
  v12 := Tryz.zeroValue12
  t46 := Tryz.underlying128
  a46 := Tryz.isAgg128
  z46 := Tryz.sizeOf128
  v46 := Tryz.zeroValue128
  t53 := Tryz.underlying142
  a53 := Tryz.isAgg142
  z53 := Tryz.sizeOf142
  v53 := Tryz.zeroValue142
  t119 := Tryz.underlying124
  a119 := Tryz.isAgg124
  z119 := Tryz.sizeOf124
  t138 := Tryz.underlying126
  a138 := Tryz.isAgg126
  z138 := Tryz.sizeOf126
  v138 := Tryz.zeroValue126
  t139 := Tryz.underlying127
  a139 := Tryz.isAgg127
  z139 := Tryz.sizeOf127
  v139 := Tryz.zeroValue127
  g3 := by kernel_rfl
  g4 := by kernel_rfl }
end Go.Proofs
end
section
set_option linter.unusedVariables false
set_option linter.unusedSimpArgs false
namespace Go.Proofs.YtdojmdbaiddkgaaGreatDoor.Rune
open Go.RowKit
theorem Drawn2.below (w : World) (n : Nat) : Below w.heap.size w (w.drewN n) := ⟨rfl, rfl, rfl, Nat.le_refl _, fun _ _ => rfl⟩
theorem quiet_add_same {P : Program} {f : FuncId} {args : Array Value} {w : World} {a n : Nat} {v : Value}
    (h : Calls P f args (w.drewN (a + n)) fun e w' => e = .returned v ∧ w' = w.drewN (a + n)) :
    Calls P f args (w.drewN (a + n)) fun e w'' => e = .returned v ∧ ∃ m, w'' = w.drewN (a + m) :=
  h.mono fun _ _ ⟨he, hm⟩ => ⟨he, n, hm⟩
theorem indexByte_none (l : List UInt8) (c : UInt8) (h : ∀ b ∈ l, b ≠ c) : Lib.indexByte l c = -1 := by
  induction l with
  | nil => rfl
  | cons b t ih =>
    have h1 : (b == c) = false := beq_eq_false_iff_ne.2 (h b (by simp))
    have h2 := ih (fun x hx => h x (by simp [hx]))
    unfold Lib.indexByte
    rw [h1, h2]; rfl
theorem allx (chars : ByteArray) (hs : ∀ b ∈ chars.data.toList, b.toNat < 128) (a e : Nat) (c : UInt8) (hc : 128 ≤ c.toNat) : Lib.indexByte (chars.extract a e).data.toList c = -1 :=
  indexByte_none _ _ fun b hb hbc => by have := hs b (mem_extract hb); rw [hbc] at this; omega
theorem at_lt (chars : ByteArray) (hs : ∀ b ∈ chars.data.toList, b.toNat < 128) (i : Nat) (h : i < chars.size) : (chars[i]'h).toNat < 128 :=
  hs _ (Array.getElem_mem_toList (xs := chars.data) h)
set_option maxHeartbeats 2000000 in
set_option maxRecDepth 100000 in
theorem IndexRune_fffd (chars : ByteArray) (hs : ∀ b ∈ chars.data.toList, b.toNat < 128) (w : World) :
    Calls Tryz.prog 82 #[.string chars, .int .i32 65533] w fun e w' => e = .returned (.int .i64 (-1)) ∧ Below w.heap.size w w' := by
  have HS := Lib.hid hs
  clear hs
  go_enter Tryz.func82, Tryz.ntmps82
  go_wp2
  go_loopg [5, 6] chars.size (fun g _ _ wx => ∃ i : Nat, i + g = chars.size ∧ wx = w.iter chars i)
  case atStart => exact ⟨0, by omega, rfl⟩
  case round =>
    obtain ⟨i, hig, rfl⟩ := hrel
    cases gk with
    | zero =>
      obtain rfl : i = chars.size := by omega
      have hnx := run_next_end (P := Tryz.prog) w chars chars.size
      go_wp2
      go_ret
      exact ⟨rfl, (Below.refl _ _).alloc (Nat.le_refl _) _⟩
    | succ g =>
      have hi : i < chars.size := by omega
      have hx128 := at_lt chars HS.out i hi
      obtain ⟨x, hx⟩ : ∃ x : UInt8, chars[i]'hi = x := ⟨_, rfl⟩
      have hnx := fun ty => run_next_ascii (P := Tryz.prog) w chars i ty hi hx128
      rw [hx] at hnx hx128
      have hne : ((x.toNat : Int) == 65533) = false := beq_eq_false_iff_ne.2 (by omega)
      clear hx
      go_wp2
      go_roundg g
      case measure => omega
      case rel => exact ⟨i + 1, by omega, rfl⟩
set_option maxHeartbeats 4000000 in
set_option maxRecDepth 100000 in
theorem IndexRune_high (chars : ByteArray) (hs : ∀ b ∈ chars.data.toList, b.toNat < 128) (hc : chars.size ≤ 1000) (r : Int) (h0 : 128 ≤ r) (hv : validRune r = true) (hne : r ≠ 65533) (w : World) :
    Calls Tryz.prog 82 #[.string chars, .int .i32 r] w fun e w' => e = .returned (.int .i64 (-1)) ∧ Below w.heap.size w w' := by
  have HS := Lib.hid hs
  clear hs
  obtain ⟨h2, h4, hlast⟩ := encode_facts r (by rw [validRune_eq]; exact hv) h0
  have HV : Lib.validRune r = true := hv
  generalize he : Utf8.encode r = rs at *
  have hlt0 : rs.size - 1 < rs.size := by omega
  have hl128 := hlast hlt0
  clear hlast
  have HE := Lib.hid he
  have HVh := Lib.hid HV
  have HNE := Lib.hid hne
  clear he HV hv hne
  have t1 : decide (0 ≤ r) = true := by simp; omega
  have t2 : decide (r < 128) = false := by simp; omega
  have t3 : (r == 65533) = false := beq_eq_false_iff_ne.2 HNE.out
  obtain ⟨last, hlast⟩ : ∃ n : Nat, n = rs.size - 1 := ⟨_, rfl⟩
  have e1 : rs.size = last + 1 := by omega
  have hw1 : IntKind.i64.wrap ((rs.size : Int) - 1) = (last : Int) := by rw [e1]; unfold IntKind.wrap; simp [IntKind.bits, IntKind.signed]; omega
  have E1 := Lib.hid e1
  clear hlast
  have hlr : last < rs.size := by omega
  obtain ⟨x, hx⟩ : ∃ x : UInt8, rs[last]'hlr = x := ⟨_, rfl⟩
  have hx128 : 128 ≤ x.toNat := by rw [← hx]; have h9 := hl128; simp only [e1, Nat.add_sub_cancel] at h9; exact h9
  clear hl128 e1 hlt0
  by_cases hin : last < chars.size
  · have hy128 := at_lt chars HS.out last hin
    obtain ⟨y, hy⟩ : ∃ y : UInt8, chars[last]'hin = y := ⟨_, rfl⟩
    rw [hy] at hy128
    have hyx : ((y.toNat : Int) == (x.toNat : Int)) = false := beq_eq_false_iff_ne.2 (by omega)
    have hyx' : ((y.toNat : Int) != (x.toNat : Int)) = true := bne_iff_ne.2 (by omega)
    have hd1 : decide ((last : Int) < (chars.size : Int)) = true := by simp; omega
    have hd2 : decide (last < chars.size) = true := by simp; omega
    have w2 : IntKind.i64.wrap ((last : Int) + 1) = (last : Int) + 1 := by unfold IntKind.wrap; simp [IntKind.bits, IntKind.signed]; omega
    go_enter Tryz.func82, Tryz.ntmps82
    go_wp2_with (first | (go_at_call 97; refine (Tryz.utf8_ValidRune r _).mono ?_; rintro e w' ⟨rfl, hw⟩; rw [hw, HVh.out]; clear hw))
    have he := HE.out
    have e1 := E1.out
    go_step3
    go_wp2
    clear he e1
    refine wp_loop_rounds 1 ?_
    rw [rounds_succ]
    go_wp2
    go_step3
    go_wp2
    go_quiet (fail)
    go_wp2
    have hle : last + 1 ≤ chars.size := by omega
    have hle2 : (last : Int) + 1 ≤ (chars.size : Int) := by omega
    have h01 : (0 : Int) ≤ (last : Int) + 1 := by omega
    have hsl : ((last : Int) + 1).toNat = last + 1 := by omega
    have hix := allx chars HS.out (last + 1) chars.size x hx128
    have hix2 : Lib.indexByte (chars.extract (last + 1) chars.size).data.toList ((x.toNat : Int)).toNat.toUInt8 = -1 := by rw [← hix]; congr 1; simp
    go_quiet ((go_at_call 90; exact quiet_add_same (Tryz.strings_IndexByte _ _ _)))
    rw [hix2]
    go_wp2
    rw [Exit.noGoto_ret]
    go_wp2
    rw [Exit.noGoto_ret]
    go_ret
    exact ⟨rfl, (Drawn2.below _ _)⟩
  · have hd1 : decide ((last : Int) < (chars.size : Int)) = false := by simp; omega
    have hd2 : decide (last < chars.size) = false := by simp; omega
    go_enter Tryz.func82, Tryz.ntmps82
    go_wp2_with (first | (go_at_call 97; refine (Tryz.utf8_ValidRune r _).mono ?_; rintro e w' ⟨rfl, hw⟩; rw [hw, HVh.out]; clear hw))
    have he := HE.out
    have e1 := E1.out
    go_step3
    go_wp2
    clear he e1
    refine wp_loop_rounds 1 ?_
    rw [rounds_succ]
    go_wp2
    rw [Exit.noGoto_ret]
    go_ret
    exact ⟨rfl, Below.refl _ _⟩
theorem IndexRune_any (chars : ByteArray) (hs : ∀ b ∈ chars.data.toList, b.toNat < 128) (hc : chars.size ≤ 1000) (r : Nat) (h0 : 128 ≤ r) (hv : validRune (r : Int) = true) (w : World) :
    Calls Tryz.prog 82 #[.string chars, .int .i32 r] w fun e w' => e = .returned (.int .i64 (-1)) ∧ Below w.heap.size w w' := by
  by_cases h : r = 65533
  · subst h; exact IndexRune_fffd chars hs w
  · exact IndexRune_high chars hs hc r (by omega) hv (by omega) w
structure Aside0 (p : Prop) : Prop where mk :: (out : p)
theorem below_iterAt {B : Nat} {a w : World} (h : Below B a w) (k : Nat) (hk : B ≤ k) (s : ByteArray) (p : Nat) : Below B a (w.iterAt k s p) := by
  refine ⟨h.os, h.tape, h.output, ?_, fun i hi => ?_⟩
  · have := h.size; simpa [World.iterAt] using this
  · have h1 := h.block i hi
    rw [← h1]
    simp only [World.iterAt]
    rw [Array.getElem?_setIfInBounds_ne (by omega)]
theorem get!_at (s : ByteArray) (i : Nat) (h : i < s.size) : s.get! i = s[i]'h := by
  have : s[i]! = s[i]'h := getElem!_pos s i h
  cases s with | mk a => simp [ByteArray.get!] at *; exact getElem!_pos a i h
theorem dec_high (s : ByteArray) (i : Nat) (h : i < s.size) (hb : 128 ≤ (s[i]'h).toNat) :
    1 ≤ (Utf8.decode s i).2 ∧ i + (Utf8.decode s i).2 ≤ s.size ∧ (∀ j b, i ≤ j → j < i + (Utf8.decode s i).2 → s.data.toList[j]? = some b → 128 ≤ b.toNat) ∧ 128 ≤ (Utf8.decode s i).1 ∧ validRune ((Utf8.decode s i).1 : Int) = true := by
  have hpos := Lib.decode_width_pos s i h
  rw [Lib.decode_at] at *
  have hb0 : 128 ≤ (s.get! i).toNat := by rw [get!_at s i h]; exact hb
  have k0 := (s.get! i).toNat_lt
  have hle := Lib.decodeN_width_le (s.size - i) (s.get! i).toNat (s.get! (i + 1)).toNat (s.get! (i + 2)).toNat (s.get! (i + 3)).toNat (by omega)
  have hc := Lib.decodeN_conts (s.size - i) (s.get! i).toNat (s.get! (i + 1)).toNat (s.get! (i + 2)).toNat (s.get! (i + 3)).toNat
  have hv := Lib.decodeN_valid (s.size - i) (s.get! i).toNat (s.get! (i + 1)).toNat (s.get! (i + 2)).toNat (s.get! (i + 3)).toNat k0
  have hcs := Lib.decodeN_cases (s.size - i) (s.get! i).toNat (s.get! (i + 1)).toNat (s.get! (i + 2)).toNat (s.get! (i + 3)).toNat
  generalize Lib.decodeN (s.size - i) (s.get! i).toNat (s.get! (i + 1)).toNat (s.get! (i + 2)).toNat (s.get! (i + 3)).toNat = d at *
  obtain ⟨r, n⟩ := d
  simp only at *
  refine ⟨hpos, by omega, fun j b hj1 hj2 hb' => ?_, ?_, ?_⟩
  · obtain ⟨hlt, hbe⟩ := List.getElem?_eq_some_iff.1 hb'
    have hjs : j < s.size := by omega
    have e : s.get! j = b := by rw [get!_at s j hjs, ← hbe]; rfl
    obtain rfl | rfl | rfl | rfl : j = i ∨ j = i + 1 ∨ j = i + 2 ∨ j = i + 3 := by omega
    · rw [← e]; exact hb0
    · rw [← e]; have := hc.1 (by omega); omega
    · rw [← e]; have := hc.2.1 (by omega); omega
    · rw [← e]; have := hc.2.2.1 (by omega); omega
  · rcases hcs with h1 | h1 | h1 | h1 | h1
    · omega
    · have := h1.2.2.2.2; simp at this; omega
    · have := h1.2.2.2.2.2; simp at this; omega
    · omega
    · have := h1; simp at this; omega
  · unfold validRune
    simp
    omega
theorem contains_high (chars : List UInt8) (hs : ∀ b ∈ chars, b.toNat < 128) (b : UInt8) (hb : 128 ≤ b.toNat) : chars.contains b = false := by
  cases h : chars.contains b
  · rfl
  · have := hs b (by simpa using h); omega
theorem noAny_high {s chars : List UInt8} (hs : ∀ b ∈ chars, b.toNat < 128) {i n : Nat} (h : Lib.NoAny s chars i) (hb : ∀ j b, i ≤ j → j < i + n → s[j]? = some b → 128 ≤ b.toNat) : Lib.NoAny s chars (i + n) := fun j b hj hx => by
  by_cases hji : j < i
  · exact h j b hji hx
  · exact contains_high chars hs b (hb j b (by omega) hj hx)
set_option maxHeartbeats 4000000 in
set_option maxRecDepth 100000 in
theorem IndexAny_short (s chars : ByteArray) (hs : ∀ b ∈ chars.data.toList, b.toNat < 128) (h2 : 2 ≤ chars.size) (hc : chars.size ≤ 1000) (h8 : s.size ≤ 8) (w : World) :
    Calls Tryz.prog 66 #[.string s, .string chars] w fun e w' => e = .returned (.int .i64 (Lib.indexAny s.data.toList chars.data.toList)) ∧ Below w.heap.size w w' := by
  have HS := Lib.hid hs
  clear hs
  have hemp : chars.toList.isEmpty = false := by
    rw [Lib.toList_data]
    cases h : chars.data.toList with
    | nil => have := Lib.size_eq chars; rw [h, List.length_nil] at this; omega
    | cons _ _ => rfl
  have hn1 : ((chars.size : Int) == 1) = false := beq_eq_false_iff_ne.2 (by omega)
  have h8z : decide ((8 : Int) < (s.size : Int)) = false := decide_eq_false (by omega)
  go_enter Tryz.func66, Tryz.ntmps66
  go_wp2_with (go_at_call 83; refine (Tryz.strings_shouldUseASCIISet _ _).mono ?_; rintro e w' ⟨rfl, hw⟩; rw [hw, h8z]; clear hw)
  go_loopg [9, 10] s.size (fun g _ _ wx => ∃ i : Nat, i ≤ s.size ∧ s.size ≤ i + g ∧ Aside0 (Below w.heap.size w wx) ∧ Aside0 (wx.heap[w.heap.size]? = some (.stringIter s i)) ∧ Aside0 (Lib.NoAny s.data.toList chars.data.toList i))
  case atStart => exact ⟨0, by omega, by omega, ⟨(Below.refl _ _).alloc (Nat.le_refl _) _⟩, ⟨World.iter_heap _ _ _⟩, ⟨Lib.NoAny.zero _ _⟩⟩
  case round =>
    obtain ⟨i, hig, hgs, HB, HI, HN⟩ := hrel
    by_cases hi : i < s.size
    · cases gk with
      | zero => omega
      | succ g =>
        by_cases hx128 : (s[i]'hi).toNat < 128
        · obtain ⟨x, hx⟩ : ∃ x : UInt8, s[i]'hi = x := ⟨_, rfl⟩
          have hxl : s.data.toList[i]? = some x := by rw [← hx]; exact Lib.data_getElem? s i hi
          have hnx := fun ty => Lib.run_next_ascii_at (P := Tryz.prog) wr w.heap.size s i ty HI.out hi hx128
          rw [hx] at hnx hx128
          have Hx : Aside0 (s.data.toList[i]? = some x) := ⟨hxl⟩
          clear hxl hx
          have hcon := Lib.contains_iff_indexByte chars.data.toList x
          have hback : ((x.toNat : Int)).toNat.toUInt8 = x := by simp
          have HB2 : Aside0 (Below w.heap.size w (wr.iterAt w.heap.size s (i + 1))) := ⟨below_iterAt HB.out _ (Nat.le_refl _) _ _⟩
          have HI2 : Aside0 ((wr.iterAt w.heap.size s (i + 1)).heap[w.heap.size]? = some (.stringIter s (i + 1))) := ⟨Lib.iterAt_heap wr _ s i (i + 1) HI.out⟩
          cases hin : chars.data.toList.contains x
          · rw [hin] at hcon
            have hlt : ¬ ((0 : Int) ≤ Lib.indexByte chars.data.toList x) := of_decide_eq_false hcon.symm
            clear hcon
            go_wp2_with (go_at_call 82; refine (Tryz.strings_IndexRune_ascii _ _ _ (by omega) (by omega)).mono ?_; rintro e w' ⟨rfl, hw⟩; rw [hw, hback]; clear hw)
            go_roundg g
            case measure => omega
            case rel => exact ⟨i + 1, by omega, by omega, HB2, HI2, ⟨HN.out.succ Hx.out hin⟩⟩
          · rw [hin] at hcon
            have hge : (0 : Int) ≤ Lib.indexByte chars.data.toList x := of_decide_eq_true hcon.symm
            clear hcon
            go_wp2_with (go_at_call 82; refine (Tryz.strings_IndexRune_ascii _ _ _ (by omega) (by omega)).mono ?_; rintro e w' ⟨rfl, hw⟩; rw [hw, hback]; clear hw)
            go_ret
            exact ⟨by rw [Lib.indexAny_hit HN.out Hx.out hin]; rfl, HB2.out⟩
        · obtain ⟨d1, d2, d3, d4, d5⟩ := dec_high s i hi (by omega)
          have hnx := fun ty => Lib.run_next_any_at (P := Tryz.prog) wr w.heap.size s i ty HI.out hi
          generalize hd : Utf8.decode s i = d at *
          obtain ⟨r, n⟩ := d
          simp only at *
          have HB2 : Aside0 (Below w.heap.size w (wr.iterAt w.heap.size s (i + n))) := ⟨below_iterAt HB.out _ (Nat.le_refl _) _ _⟩
          have HI2 : Aside0 ((wr.iterAt w.heap.size s (i + n)).heap[w.heap.size]? = some (.stringIter s (i + n))) := ⟨Lib.iterAt_heap wr _ s i (i + n) HI.out⟩
          have HN2 : Aside0 (Lib.NoAny s.data.toList chars.data.toList (i + n)) := ⟨noAny_high HS.out HN.out d3⟩
          clear hd d3
          have hneg : decide ((0 : Int) ≤ -1) = false := by decide
          have hlt2 : w.heap.size < (wr.iterAt w.heap.size s (i + n)).heap.size := (Array.getElem?_eq_some_iff.1 HI2.out).1
          go_wp2_with (go_at_call 82; refine (IndexRune_any chars HS.out hc r (by omega) d5 _).mono ?_; rintro e w' ⟨rfl, hb⟩)
          go_roundg g
          case measure => omega
          case rel => exact ⟨i + n, by omega, by omega, ⟨HB2.out.trans (hb.mono (by omega))⟩, ⟨(hb.block _ hlt2).trans HI2.out⟩, HN2⟩
    · have hnx := fun ty => Lib.run_next_end_at (P := Tryz.prog) wr w.heap.size s i ty HI.out hi
      go_wp2
      go_ret
      exact ⟨by rw [Lib.indexAny_none (by rw [← Lib.size_eq]; have : i = s.size := by omega
                                          rw [← this]; exact HN.out)]; rfl, HB.out⟩
end Go.Proofs.YtdojmdbaiddkgaaGreatDoor.Rune
end
section
set_option linter.unusedVariables false
set_option linter.unusedSimpArgs false
namespace Go.Proofs.YtdojmdbaiddkgaaGreatDoor.Print
open Go.RowKit Go.Proofs.YtdojmdbaiddkgaaGreatDoorW.PrintWords Go.Proofs.YtdojmdbaiddkgaaGreatDoorW.PrintLast
theorem bne_nil_isEmpty (l : List UInt8) : (l != []) = !l.isEmpty := by cases l <;> rfl
theorem beq_nil_isEmpty (l : List UInt8) : (l == []) = l.isEmpty := by cases l <;> rfl
structure GG (w : World) : Prop where
  u8 : Lib.Utf8Tabs 0 1 w
theorem GG.below {w w' : World} (h : GG w) (hb : Below w.heap.size w w') : GG w' := ⟨Utf8Tabs_below h.u8 hb⟩
theorem GG.drewN {w : World} (h : GG w) (n : Nat) : GG (w.drewN n) := h.below (pw_below_drewN (Below.refl _ _) n)
theorem GG.drew {w : World} (h : GG w) : GG w.drew := h.below (below_drew (Below.refl _ _))
theorem GG.alloc {w : World} (h : GG w) (o : Obj) : GG (w.alloc o) := h.below (below_alloc (Below.refl _ _) o)
def strings_IndexByte.f (a0 : ByteArray) (a1 : Int) : Option Int := some (Lib.indexByte a0.data.toList a1.toNat.toUInt8)
theorem strings_IndexByte.calls (a0 : ByteArray) (a1 : Int) (r : Int) (w : World) (hG : GG w) (h : strings_IndexByte.f a0 a1 = some r) :
    Calls Tryz.prog 90 #[.string a0, .int .u8 a1] w fun e w' => e = .returned (.int .i64 r) ∧ Drawn0 w w' := by
  obtain rfl := Option.some.inj h
  exact (Tryz.strings_IndexByte a0 a1 w).mono fun e w' ⟨he, hw⟩ => ⟨he, hw ▸ Drawn0.refl _⟩
def utf8_ValidString.f (a0 : ByteArray) : Option Bool := if a0.size ≤ 9223372036854775807 then some (Lib.validD a0.data.toList) else none
theorem utf8_ValidString.calls (a0 : ByteArray) (r : Bool) (w : World) (hG : GG w) (h : utf8_ValidString.f a0 = some r) :
    Calls Tryz.prog 50 #[.string a0] w fun e w' => e = .returned (.bool r) ∧ Below w.heap.size w w' := by
  by_cases hs : a0.size ≤ 9223372036854775807
  · simp only [utf8_ValidString.f] at h
    rw [if_pos hs] at h
    obtain rfl := Option.some.inj h
    exact Any.utf8_ValidString Tryz.lays196 a0 w hs hG.u8
  · simp only [utf8_ValidString.f] at h
    rw [if_neg hs] at h
    cases h
def strings_ContainsRune.f (a0 : ByteArray) (a1 : Int) : Option Bool := if 0 ≤ a1 ∧ a1 < 128 then some (decide (0 ≤ Lib.indexByte a0.data.toList a1.toNat.toUInt8)) else none
set_option maxHeartbeats 1000000 in
theorem strings_ContainsRune.calls (a0 : ByteArray) (a1 : Int) (r : Bool) (w : World) (hG : GG w) (h : strings_ContainsRune.f a0 a1 = some r) :
    Calls Tryz.prog 92 #[.string a0, .int .i32 a1] w fun e w' => e = .returned (.bool r) ∧ Drawn0 w w' := by
  by_cases hs : 0 ≤ a1 ∧ a1 < 128
  · simp only [strings_ContainsRune.f] at h
    rw [if_pos hs] at h
    obtain rfl := Option.some.inj h
    go_enter Tryz.func92, Tryz.ntmps92
    go_wp2_with (go_at_call 82; refine (Tryz.strings_IndexRune_ascii _ _ _ hs.1 hs.2).mono ?_; rintro e w' ⟨rfl, hw⟩; rw [hw]; clear hw)
    go_ret
    exact ⟨rfl, Drawn0.refl _⟩
  · simp only [strings_ContainsRune.f] at h
    rw [if_neg hs] at h
    cases h
def strings_ContainsAny.f (a0 a1 : ByteArray) : Option Bool := if a0.size < 4294967281 ∧ 2 ≤ a1.size ∧ a1.size ≤ 1000 ∧ a1.data.toList.all (fun b => decide (b.toNat < 128)) = true then some (Lib.containsAny a0.data.toList a1.data.toList) else none
set_option maxHeartbeats 1000000 in
theorem strings_ContainsAny.calls (a0 a1 : ByteArray) (r : Bool) (w : World) (hG : GG w) (h : strings_ContainsAny.f a0 a1 = some r) :
    Calls Tryz.prog 38 #[.string a0, .string a1] w fun e w' => e = .returned (.bool r) ∧ Below w.heap.size w w' := by
  by_cases hs : a0.size < 4294967281 ∧ 2 ≤ a1.size ∧ a1.size ≤ 1000 ∧ a1.data.toList.all (fun b => decide (b.toNat < 128)) = true
  · simp only [strings_ContainsAny.f] at h
    rw [if_pos hs] at h
    obtain rfl := Option.some.inj h
    obtain ⟨h1, h2, h3, h4⟩ := hs
    have hall : ∀ b ∈ a1.data.toList, b.toNat < 128 := fun b hb => by simpa using List.all_eq_true.1 h4 b hb
    have hidx : ∀ W : World, Calls Tryz.prog 66 #[.string a0, .string a1] W fun e w' => e = .returned (.int .i64 (Lib.indexAny a0.data.toList a1.data.toList)) ∧ Below W.heap.size W w' := fun W => by
      by_cases h8 : a0.size ≤ 8
      · exact Rune.IndexAny_short a0 a1 hall h2 h3 h8 W
      · refine (Tryz.strings_IndexAny_long (fun _ => by kernel_rfl) a0 a1 W h2 (by omega) h1 (by omega) (fun j b hb => hall b (List.mem_of_getElem? hb))).mono ?_
        rintro e w' ⟨he, hw⟩
        exact ⟨he, by rw [hw]; exact ((Below.refl _ _).alloc (Nat.le_refl _) _).alloc (by simp) _⟩
    clear h4
    have H := Lib.hid hidx
    clear hidx
    go_enter Tryz.func38, Tryz.ntmps38
    go_wp2_with (go_at_call 66; refine (H.out _).mono ?_; rintro e w' ⟨rfl, hb⟩)
    go_ret
    exact ⟨rfl, hb⟩
  · simp only [strings_ContainsAny.f] at h
    rw [if_neg hs] at h
    cases h
end Go.Proofs.YtdojmdbaiddkgaaGreatDoor.Print
end
section
set_option linter.unusedVariables false
namespace Go.Proofs.YtdojmdbaiddkgaaGreatDoor.Tabs
open Go Go.RowKit Go.Lib
def gFirst : Nat := 0
def gAccept : Nat := 1
theorem gg_of_reads {w : World} (h3 : VarReads Tryz.prog w "unicode/utf8.first" firstData) (h4 : VarReads Tryz.prog w "unicode/utf8.acceptRanges" acceptData) : Print.GG w :=
  ⟨utf8Tabs_of_readsT (U8Types.of196 Tryz.lays196) ⟨by kernel_rfl, by kernel_rfl, by kernel_rfl, by kernel_rfl, by kernel_rfl, by kernel_rfl, by kernel_rfl⟩ h3 h4⟩
theorem gg_of_laid {W : World} (h : laidMet Tryz.prog [("unicode/utf8.acceptRanges", Rows.laid_unicode_utf8_acceptRanges), ("unicode/utf8.first", Rows.laid_unicode_utf8_first)] W) : Print.GG W :=
  gg_of_reads (by have := Lib.laidMet.reads h (n := "unicode/utf8.first") (.tail _ (.head _)); rw [show Rows.laid_unicode_utf8_first = firstData from Pinned.utf8First_eq] at this; exact this) (Lib.laidMet.reads h (n := "unicode/utf8.acceptRanges") (.head _))
end Go.Proofs.YtdojmdbaiddkgaaGreatDoor.Tabs
end
section
set_option linter.unusedVariables false
set_option linter.unusedSimpArgs false
namespace Go.Proofs.YtdojmdbaiddkgaaGreatDoor.Args
open Go Go.RowKit Go.Lib Go.Proofs.YtdojmdbaiddkgaaGreatDoorW.PrintWords
/-- A type's data read as a kind, with what the form's reach says of it. -/
def Rd {α : Type} (d : Kd α) (t : TypeId) (B : α → Prop) : Prop := ∀ (H : Type) (enc : TypeId × Value → H) (W : World) (fuel : Nat) (cs : List Value) (x : DataW H × List MemPlace), DataW.trod enc Tryz.prog W 0 (fun _ => true) true fuel t cs = some x → (∀ n ∈ x.1.weights Tryz.prog t, n ≤ reachBytes) → ∃ a, d.K W a cs ∧ B a
/-- Fields, one behind the other. -/
def Trods {H : Type} (enc : TypeId × Value → H) (W : World) (fuel : Nat) : List TypeId → List Value → List (DataW H × List MemPlace) → Prop
  | [], cs, xs => cs = [] ∧ xs = []
  | t :: ts, cs, xs => ∃ c0 c1 x0 x1, cs = c0 ++ c1 ∧ xs = x0 :: x1 ∧ DataW.trod enc Tryz.prog W 0 (fun _ => true) true fuel t c0 = some x0 ∧ Trods enc W fuel ts c1 x1
def RdF {α : Type} (d : Kd α) (ts : List TypeId) (B : α → Prop) : Prop := ∀ (H : Type) (enc : TypeId × Value → H) (W : World) (fuel : Nat) (cs : List Value) (xs : List (DataW H × List MemPlace)), Trods enc W fuel ts cs xs → (∀ n ∈ DataW.weightsEach Tryz.prog ts (xs.map (·.1)), n ≤ reachBytes) → ∃ a, d.K W a cs ∧ B a
/-- Do the fields lie one behind the other? -/
def contig (P : Program) (total : Nat) : Nat → List Field → Bool
  | o, [] => o == total
  | o, f :: r => f.offset == o && contig P total (o + P.cellsOf f.type) r
end Go.Proofs.YtdojmdbaiddkgaaGreatDoor.Args
end
section
namespace Go.Proofs.YtdojmdbaiddkgaaGreatDoor.Print
open Go.RowKit Go.Proofs.YtdojmdbaiddkgaaGreatDoorW.PrintWords Go.Proofs.YtdojmdbaiddkgaaGreatDoorW.PrintLast
set_option linter.unusedVariables false
set_option linter.unusedSimpArgs false
def errW : Option Int → Value
 | none => .nilIface
 | some c => .iface 0 (.int .i64 c)
theorem errW_none : errW none = .nilIface := rfl
theorem errW_some (c : Int) : errW (some c) = .iface 0 (.int .i64 c) := rfl
theorem info5 : (Tryz.prog.info? 5).map (fun i => (i.zero, i.size, i.bytes)) = some (some (.int .u8 0), 1, 1) := by kernel_rfl
theorem info9 : (Tryz.prog.info? 9).map (fun i => (i.zero, i.size, i.bytes)) = some (some (.string ⟨#[]⟩), 1, 16) := by kernel_rfl
theorem info31 : (Tryz.prog.info? 31).map (fun i => (i.zero, i.size, i.bytes)) = some (some (.agg #[(.string ⟨#[]⟩), (.slice none 0 0), (.slice none 0 0)]), 3, 64) := by kernel_rfl
theorem info49 : (Tryz.prog.info? 49).map (fun i => (i.zero, i.size, i.bytes)) = some (some (.agg #[(.string ⟨#[]⟩), (.slice none 0 0), (.string ⟨#[]⟩)]), 3, 56) := by kernel_rfl
theorem info77 : (Tryz.prog.info? 77).map (fun i => (i.zero, i.size, i.bytes)) = some (some (.agg #[(.string ⟨#[]⟩), (.slice none 0 0)]), 2, 40) := by kernel_rfl
theorem info95 : (Tryz.prog.info? 95).map (fun i => (i.zero, i.size, i.bytes)) = some (some (.agg #[(.string ⟨#[]⟩), (.int .i64 0)]), 2, 24) := by kernel_rfl
structure S77 where
 f0 : ByteArray
 f1 : (List ByteArray)
def z77 : S77 := ⟨(⟨#[]⟩ : ByteArray), ([] : List ByteArray)⟩
def k77 : Kd S77 := Kd.iso (Kd.pair Kd.string (Kd.slice 9 Kd.string)) (fun x : S77 => (x.f0, x.f1))
theorem k77_open {w : World} {x : S77} {cs : List Value} (h : k77.K w x cs) : ∃ A1 c1, cs = [.string x.f0, .slice A1 x.f1.length c1] ∧ x.f1.length ≤ c1 ∧ Kd.string.C w A1 x.f1.length x.f1 := by
 obtain ⟨_, _, rfl, rfl, ⟨A1, c1, rfl, l1, g1⟩⟩ := h
 exact ⟨A1, c1, rfl, l1, g1⟩
theorem k77_mkM (w : World) (base : Nat) (ok : Nat → Prop) (x : S77) {v1 : Value} (g1 : Kd.string.R 9 w base ok v1 x.f1) : k77.M w base ok x [.string x.f0, v1] := ⟨[.string x.f0], [v1], rfl, rfl, ⟨v1, rfl, g1⟩⟩
def rd_T77 (xs : List S77) (i : Int) : S77 := xs.getD i.toNat z77
theorem at_T77 {w : World} {A : Option Addr} {n : Nat} {xs : List S77} (h : Kd.C k77 w A n xs) (i : Int) (h0 : 0 ≤ i) (h1 : i < n) : ∃ ad A1 c1, A = some ad ∧ w.cell? (ad.add (i.toNat * 2)) = some (.string (rd_T77 xs i).f0) ∧ w.cell? ⟨(ad.add (i.toNat * 2)).block, (ad.add (i.toNat * 2)).off + 1, none⟩ = some (.slice A1 (rd_T77 xs i).f1.length c1) ∧ (rd_T77 xs i).f1.length ≤ c1 ∧ Kd.string.C w A1 (rd_T77 xs i).f1.length (rd_T77 xs i).f1 := by
 obtain ⟨ad, c, e, _, hK, hc0⟩ := Kd.C_get h z77 i h0 h1
 have hc : ∀ j u, c[j]? = some u → w.cell? (ad.add (i.toNat * 2 + j)) = some u := hc0
 obtain ⟨A1, c1, rfl, l1, g1⟩ := k77_open hK
 exact ⟨ad, A1, c1, e, hc 0 _ rfl, by rw [← add_field _ _ 1 (by omega)]; exact hc 1 _ rfl, l1, g1⟩
structure S49 where
 f0 : ByteArray
 f1 : (List S77)
 f2 : ByteArray
def z49 : S49 := ⟨(⟨#[]⟩ : ByteArray), ([] : List S77), (⟨#[]⟩ : ByteArray)⟩
def k49 : Kd S49 := Kd.iso (Kd.pair Kd.string (Kd.pair (Kd.slice 77 k77) Kd.string)) (fun x : S49 => (x.f0, x.f1, x.f2))
theorem k49_open {w : World} {x : S49} {cs : List Value} (h : k49.K w x cs) : ∃ A1 c1, cs = [.string x.f0, .slice A1 x.f1.length c1, .string x.f2] ∧ x.f1.length ≤ c1 ∧ k77.C w A1 x.f1.length x.f1 := by
 obtain ⟨_, _, rfl, rfl, ⟨_, _, rfl, ⟨A1, c1, rfl, l1, g1⟩, rfl⟩⟩ := h
 exact ⟨A1, c1, rfl, l1, g1⟩
theorem k49_mkM (w : World) (base : Nat) (ok : Nat → Prop) (x : S49) {v1 : Value} (g1 : k77.R 77 w base ok v1 x.f1) : k49.M w base ok x [.string x.f0, v1, .string x.f2] := ⟨[.string x.f0], [v1, .string x.f2], rfl, rfl, ⟨[v1], [.string x.f2], rfl, ⟨v1, rfl, g1⟩, rfl⟩⟩
def rd_T49 (xs : List S49) (i : Int) : S49 := xs.getD i.toNat z49
theorem at_T49 {w : World} {A : Option Addr} {n : Nat} {xs : List S49} (h : Kd.C k49 w A n xs) (i : Int) (h0 : 0 ≤ i) (h1 : i < n) : ∃ ad A1 c1, A = some ad ∧ w.cell? (ad.add (i.toNat * 3)) = some (.string (rd_T49 xs i).f0) ∧ w.cell? ⟨(ad.add (i.toNat * 3)).block, (ad.add (i.toNat * 3)).off + 1, none⟩ = some (.slice A1 (rd_T49 xs i).f1.length c1) ∧ w.cell? ⟨(ad.add (i.toNat * 3)).block, (ad.add (i.toNat * 3)).off + 2, none⟩ = some (.string (rd_T49 xs i).f2) ∧ (rd_T49 xs i).f1.length ≤ c1 ∧ k77.C w A1 (rd_T49 xs i).f1.length (rd_T49 xs i).f1 := by
 obtain ⟨ad, c, e, _, hK, hc0⟩ := Kd.C_get h z49 i h0 h1
 have hc : ∀ j u, c[j]? = some u → w.cell? (ad.add (i.toNat * 3 + j)) = some u := hc0
 obtain ⟨A1, c1, rfl, l1, g1⟩ := k49_open hK
 exact ⟨ad, A1, c1, e, hc 0 _ rfl, by rw [← add_field _ _ 1 (by omega)]; exact hc 1 _ rfl, by rw [← add_field _ _ 2 (by omega)]; exact hc 2 _ rfl, l1, g1⟩
structure S31 where
 f0 : ByteArray
 f1 : (List S49)
 f2 : (List S31)
def z31 : S31 := ⟨(⟨#[]⟩ : ByteArray), ([] : List S49), ([] : List S31)⟩
def F31 (d : Kd S31) : Kd S31 := Kd.iso (Kd.pair Kd.string (Kd.pair (Kd.slice 49 k49) (Kd.slice 31 d))) (fun x : S31 => (x.f0, x.f1, x.f2))
theorem mono31 : Kd.Mono F31 := Kd.mono_iso _ (Kd.mono_pair (Kd.mono_const _) (Kd.mono_pair (Kd.mono_const _) (Kd.mono_slice 31 Kd.mono_id)))
theorem sub31 : Kd.Sub F31 [9, 31, 49, 77] := Kd.sub_iso _ (Kd.sub_pair (Kd.sub_const _ (by decide)) (Kd.sub_pair (Kd.sub_const _ (by decide)) (Kd.sub_slice 31 (by decide) Kd.sub_id)))
theorem sz31 : ∀ n, (Kd.upto F31 3 [9, 31, 49, 77] n).sz = 3 := Kd.upto_sz (fun _ => rfl)
def k31 : Kd S31 := Kd.fix F31 3 [9, 31, 49, 77] sz31 (Kd.upto_E sub31)
theorem k31_open {w : World} {x : S31} {cs : List Value} (h : k31.K w x cs) : ∃ A1 c1 A2 c2, cs = [.string x.f0, .slice A1 x.f1.length c1, .slice A2 x.f2.length c2] ∧ x.f1.length ≤ c1 ∧ k49.C w A1 x.f1.length x.f1 ∧ x.f2.length ≤ c2 ∧ k31.C w A2 x.f2.length x.f2 := by
 obtain ⟨n, h⟩ := h
 cases n with
 | zero => exact h.elim
 | succ n =>
  obtain ⟨_, _, rfl, rfl, ⟨_, _, rfl, ⟨A1, c1, rfl, l1, g1⟩, ⟨A2, c2, rfl, l2, g2⟩⟩⟩ := h
  exact ⟨A1, c1, A2, c2, rfl, l1, g1, l2, Kd.fix_C g2⟩
theorem k31_mkM (w : World) (base : Nat) (ok : Nat → Prop) (x : S31) {v1 : Value} (g1 : k49.R 49 w base ok v1 x.f1) {v2 : Value} (g2 : k31.R 31 w base ok v2 x.f2) : k31.M w base ok x [.string x.f0, v1, v2] := by
 obtain ⟨n2, q2⟩ := Kd.fix_R_back mono31 g2
 have r2 := Kd.upto_R_le mono31 sz31 (show n2 ≤ n2 by omega) q2
 exact ⟨n2 + 1, ⟨[.string x.f0], [v1, v2], rfl, rfl, ⟨[v1], [v2], rfl, ⟨v1, rfl, g1⟩, ⟨v2, rfl, r2⟩⟩⟩⟩
def rd_T31 (xs : List S31) (i : Int) : S31 := xs.getD i.toNat z31
theorem at_T31 {w : World} {A : Option Addr} {n : Nat} {xs : List S31} (h : Kd.C k31 w A n xs) (i : Int) (h0 : 0 ≤ i) (h1 : i < n) : ∃ ad A1 c1 A2 c2, A = some ad ∧ w.cell? (ad.add (i.toNat * 3)) = some (.string (rd_T31 xs i).f0) ∧ w.cell? ⟨(ad.add (i.toNat * 3)).block, (ad.add (i.toNat * 3)).off + 1, none⟩ = some (.slice A1 (rd_T31 xs i).f1.length c1) ∧ w.cell? ⟨(ad.add (i.toNat * 3)).block, (ad.add (i.toNat * 3)).off + 2, none⟩ = some (.slice A2 (rd_T31 xs i).f2.length c2) ∧ (rd_T31 xs i).f1.length ≤ c1 ∧ k49.C w A1 (rd_T31 xs i).f1.length (rd_T31 xs i).f1 ∧ (rd_T31 xs i).f2.length ≤ c2 ∧ k31.C w A2 (rd_T31 xs i).f2.length (rd_T31 xs i).f2 := by
 obtain ⟨ad, c, e, _, hK, hc0⟩ := Kd.C_get h z31 i h0 h1
 have hc : ∀ j u, c[j]? = some u → w.cell? (ad.add (i.toNat * 3 + j)) = some u := hc0
 obtain ⟨A1, c1, A2, c2, rfl, l1, g1, l2, g2⟩ := k31_open hK
 exact ⟨ad, A1, c1, A2, c2, e, hc 0 _ rfl, by rw [← add_field _ _ 1 (by omega)]; exact hc 1 _ rfl, by rw [← add_field _ _ 2 (by omega)]; exact hc 2 _ rfl, l1, g1, l2, g2⟩
structure S95 where
 f0 : ByteArray
 f1 : Int
def z95 : S95 := ⟨(⟨#[]⟩ : ByteArray), (0 : Int)⟩
def k95 : Kd S95 := Kd.iso (Kd.pair Kd.string (Kd.int .i64)) (fun x : S95 => (x.f0, x.f1))
theorem k95_open {w : World} {x : S95} {cs : List Value} (h : k95.K w x cs) : cs = [.string x.f0, .int .i64 x.f1] := by
 obtain ⟨_, _, rfl, rfl, rfl⟩ := h
 exact rfl
theorem k95_openM {w : World} {base : Nat} {ok : Nat → Prop} {x : S95} {cs : List Value} (h : k95.M w base ok x cs) : cs = [.string x.f0, .int .i64 x.f1] := by
 obtain ⟨_, _, rfl, rfl, rfl⟩ := h
 exact rfl
theorem k95_mkM (w : World) (base : Nat) (ok : Nat → Prop) (x : S95)  : k95.M w base ok x [.string x.f0, .int .i64 x.f1] := ⟨[.string x.f0], [.int .i64 x.f1], rfl, rfl, rfl⟩
def rd_T95 (xs : List S95) (i : Int) : S95 := xs.getD i.toNat z95
theorem at_T95 {w : World} {A : Option Addr} {n : Nat} {xs : List S95} (h : Kd.C k95 w A n xs) (i : Int) (h0 : 0 ≤ i) (h1 : i < n) : ∃ ad , A = some ad ∧ w.cell? (ad.add (i.toNat * 2)) = some (.string (rd_T95 xs i).f0) ∧ w.cell? ⟨(ad.add (i.toNat * 2)).block, (ad.add (i.toNat * 2)).off + 1, none⟩ = some (.int .i64 (rd_T95 xs i).f1) := by
 obtain ⟨ad, c, e, _, hK, hc0⟩ := Kd.C_get h z95 i h0 h1
 have hc : ∀ j u, c[j]? = some u → w.cell? (ad.add (i.toNat * 2 + j)) = some u := hc0
 obtain rfl := k95_open hK
 exact ⟨ad, e, hc 0 _ rfl, by rw [← add_field _ _ 1 (by omega)]; exact hc 1 _ rfl⟩
structure S76 where
 f0 : ByteArray
 f1 : (List ByteArray)
def z76 : S76 := ⟨(⟨#[]⟩ : ByteArray), ([] : List ByteArray)⟩
def k76 : Kd S76 := Kd.iso (Kd.pair Kd.string (Kd.slice 9 Kd.string)) (fun x : S76 => (x.f0, x.f1))
theorem k76_open {w : World} {x : S76} {cs : List Value} (h : k76.K w x cs) : ∃ A1 c1, cs = [.string x.f0, .slice A1 x.f1.length c1] ∧ x.f1.length ≤ c1 ∧ Kd.string.C w A1 x.f1.length x.f1 := by
 obtain ⟨_, _, rfl, rfl, ⟨A1, c1, rfl, l1, g1⟩⟩ := h
 exact ⟨A1, c1, rfl, l1, g1⟩
def rd_T76 (xs : List S76) (i : Int) : S76 := xs.getD i.toNat z76
theorem at_T76 {w : World} {A : Option Addr} {n : Nat} {xs : List S76} (h : Kd.C k76 w A n xs) (i : Int) (h0 : 0 ≤ i) (h1 : i < n) : ∃ ad A1 c1, A = some ad ∧ w.cell? (ad.add (i.toNat * 2)) = some (.string (rd_T76 xs i).f0) ∧ w.cell? ⟨(ad.add (i.toNat * 2)).block, (ad.add (i.toNat * 2)).off + 1, none⟩ = some (.slice A1 (rd_T76 xs i).f1.length c1) ∧ (rd_T76 xs i).f1.length ≤ c1 ∧ Kd.string.C w A1 (rd_T76 xs i).f1.length (rd_T76 xs i).f1 := by
 obtain ⟨ad, c, e, _, hK, hc0⟩ := Kd.C_get h z76 i h0 h1
 have hc : ∀ j u, c[j]? = some u → w.cell? (ad.add (i.toNat * 2 + j)) = some u := hc0
 obtain ⟨A1, c1, rfl, l1, g1⟩ := k76_open hK
 exact ⟨ad, A1, c1, e, hc 0 _ rfl, by rw [← add_field _ _ 1 (by omega)]; exact hc 1 _ rfl, l1, g1⟩
structure S53 where
 f0 : ByteArray
 f1 : (List S76)
 f2 : ByteArray
def z53 : S53 := ⟨(⟨#[]⟩ : ByteArray), ([] : List S76), (⟨#[]⟩ : ByteArray)⟩
def k53 : Kd S53 := Kd.iso (Kd.pair Kd.string (Kd.pair (Kd.slice 76 k76) Kd.string)) (fun x : S53 => (x.f0, x.f1, x.f2))
theorem k53_open {w : World} {x : S53} {cs : List Value} (h : k53.K w x cs) : ∃ A1 c1, cs = [.string x.f0, .slice A1 x.f1.length c1, .string x.f2] ∧ x.f1.length ≤ c1 ∧ k76.C w A1 x.f1.length x.f1 := by
 obtain ⟨_, _, rfl, rfl, ⟨_, _, rfl, ⟨A1, c1, rfl, l1, g1⟩, rfl⟩⟩ := h
 exact ⟨A1, c1, rfl, l1, g1⟩
def rd_T53 (xs : List S53) (i : Int) : S53 := xs.getD i.toNat z53
theorem at_T53 {w : World} {A : Option Addr} {n : Nat} {xs : List S53} (h : Kd.C k53 w A n xs) (i : Int) (h0 : 0 ≤ i) (h1 : i < n) : ∃ ad A1 c1, A = some ad ∧ w.cell? (ad.add (i.toNat * 3)) = some (.string (rd_T53 xs i).f0) ∧ w.cell? ⟨(ad.add (i.toNat * 3)).block, (ad.add (i.toNat * 3)).off + 1, none⟩ = some (.slice A1 (rd_T53 xs i).f1.length c1) ∧ w.cell? ⟨(ad.add (i.toNat * 3)).block, (ad.add (i.toNat * 3)).off + 2, none⟩ = some (.string (rd_T53 xs i).f2) ∧ (rd_T53 xs i).f1.length ≤ c1 ∧ k76.C w A1 (rd_T53 xs i).f1.length (rd_T53 xs i).f1 := by
 obtain ⟨ad, c, e, _, hK, hc0⟩ := Kd.C_get h z53 i h0 h1
 have hc : ∀ j u, c[j]? = some u → w.cell? (ad.add (i.toNat * 3 + j)) = some u := hc0
 obtain ⟨A1, c1, rfl, l1, g1⟩ := k53_open hK
 exact ⟨ad, A1, c1, e, hc 0 _ rfl, by rw [← add_field _ _ 1 (by omega)]; exact hc 1 _ rfl, by rw [← add_field _ _ 2 (by omega)]; exact hc 2 _ rfl, l1, g1⟩
structure S25 where
 f0 : ByteArray
 f1 : (List S53)
 f2 : (List S25)
def z25 : S25 := ⟨(⟨#[]⟩ : ByteArray), ([] : List S53), ([] : List S25)⟩
def F25 (d : Kd S25) : Kd S25 := Kd.iso (Kd.pair Kd.string (Kd.pair (Kd.slice 53 k53) (Kd.slice 25 d))) (fun x : S25 => (x.f0, x.f1, x.f2))
theorem sub25 : Kd.Sub F25 [9, 25, 53, 76] := Kd.sub_iso _ (Kd.sub_pair (Kd.sub_const _ (by decide)) (Kd.sub_pair (Kd.sub_const _ (by decide)) (Kd.sub_slice 25 (by decide) Kd.sub_id)))
theorem sz25 : ∀ n, (Kd.upto F25 3 [9, 25, 53, 76] n).sz = 3 := Kd.upto_sz (fun _ => rfl)
def k25 : Kd S25 := Kd.fix F25 3 [9, 25, 53, 76] sz25 (Kd.upto_E sub25)
theorem k25_open {w : World} {x : S25} {cs : List Value} (h : k25.K w x cs) : ∃ A1 c1 A2 c2, cs = [.string x.f0, .slice A1 x.f1.length c1, .slice A2 x.f2.length c2] ∧ x.f1.length ≤ c1 ∧ k53.C w A1 x.f1.length x.f1 ∧ x.f2.length ≤ c2 ∧ k25.C w A2 x.f2.length x.f2 := by
 obtain ⟨n, h⟩ := h
 cases n with
 | zero => exact h.elim
 | succ n =>
  obtain ⟨_, _, rfl, rfl, ⟨_, _, rfl, ⟨A1, c1, rfl, l1, g1⟩, ⟨A2, c2, rfl, l2, g2⟩⟩⟩ := h
  exact ⟨A1, c1, A2, c2, rfl, l1, g1, l2, Kd.fix_C g2⟩
def rd_T25 (xs : List S25) (i : Int) : S25 := xs.getD i.toNat z25
theorem at_T25 {w : World} {A : Option Addr} {n : Nat} {xs : List S25} (h : Kd.C k25 w A n xs) (i : Int) (h0 : 0 ≤ i) (h1 : i < n) : ∃ ad A1 c1 A2 c2, A = some ad ∧ w.cell? (ad.add (i.toNat * 3)) = some (.string (rd_T25 xs i).f0) ∧ w.cell? ⟨(ad.add (i.toNat * 3)).block, (ad.add (i.toNat * 3)).off + 1, none⟩ = some (.slice A1 (rd_T25 xs i).f1.length c1) ∧ w.cell? ⟨(ad.add (i.toNat * 3)).block, (ad.add (i.toNat * 3)).off + 2, none⟩ = some (.slice A2 (rd_T25 xs i).f2.length c2) ∧ (rd_T25 xs i).f1.length ≤ c1 ∧ k53.C w A1 (rd_T25 xs i).f1.length (rd_T25 xs i).f1 ∧ (rd_T25 xs i).f2.length ≤ c2 ∧ k25.C w A2 (rd_T25 xs i).f2.length (rd_T25 xs i).f2 := by
 obtain ⟨ad, c, e, _, hK, hc0⟩ := Kd.C_get h z25 i h0 h1
 have hc : ∀ j u, c[j]? = some u → w.cell? (ad.add (i.toNat * 3 + j)) = some u := hc0
 obtain ⟨A1, c1, A2, c2, rfl, l1, g1, l2, g2⟩ := k25_open hK
 exact ⟨ad, A1, c1, A2, c2, e, hc 0 _ rfl, by rw [← add_field _ _ 1 (by omega)]; exact hc 1 _ rfl, by rw [← add_field _ _ 2 (by omega)]; exact hc 2 _ rfl, l1, g1, l2, g2⟩
end Go.Proofs.YtdojmdbaiddkgaaGreatDoor.Print
end
section
set_option linter.unusedVariables false
set_option linter.unusedSimpArgs false
namespace Go.Proofs.YtdojmdbaiddkgaaGreatDoor.Args
open Go Go.RowKit Go.Lib Go.Proofs.YtdojmdbaiddkgaaGreatDoorW.PrintWords Go.Proofs.YtdojmdbaiddkgaaGreatDoor.Print
abbrev RParam := S76
def StrsB (l : List ByteArray) : Prop := l.length * 16 ≤ 140737488351232 ∧ ∀ z ∈ l, z.size ≤ 140737488351232
def ParB (p : RParam) : Prop := p.f0.size ≤ 140737488351232 ∧ StrsB p.f1
def ParsB (l : List RParam) : Prop := l.length * 40 ≤ 140737488351232 ∧ ∀ p ∈ l, ParB p
abbrev RLine := ByteArray × List RParam × ByteArray
def LineB (z : RLine) : Prop := z.1.size ≤ 140737488351232 ∧ ParsB z.2.1 ∧ z.2.2.size ≤ 140737488351232
end Go.Proofs.YtdojmdbaiddkgaaGreatDoor.Args
end
section
namespace Go.Proofs.YtdojmdbaiddkgaaGreatDoor.Print
open Go.RowKit Go.Proofs.YtdojmdbaiddkgaaGreatDoorW.PrintWords Go.Proofs.YtdojmdbaiddkgaaGreatDoorW.PrintLast
set_option linter.unusedVariables false
theorem zB {n : Nat} {w w' : World} (h : Below n w w' := by repeat (first | (with_reducible first | exact HB.out | apply below_alloc | apply pw_below_drewN | apply below_drew1 | refine below_set ?_ (Aside0.out (by assumption))) | exact HB.out)) : Below n w w' := h
theorem zD {w w' : World} (h : Drawn0 w w' := by repeat (first | exact Drawn0.refl _ | apply Drawn0.step)) : Drawn0 w w' := h
theorem zE {p : Prop} (h : p := by first | rfl | (simp [errW_none, errW_some] <;> rfl) | (simp [*, errW_none, errW_some] <;> rfl)) : p := h
theorem zS {p : Prop} (h : p := by first | rfl | (simp; done) | (simp [bne_nil_isEmpty, beq_nil_isEmpty]; done) | (simp [*]; done)) : p := h
theorem zA {p : Prop} (h : p := by (try simp only [List.map_toArray, List.map_cons, List.map_nil]); first | done | rfl | (simp only [List.length_drop, List.length_take]; rfl)) : p := h
theorem zX {w w' : World} (h : Below w.heap.size w w' := by (with_reducible repeat (first | apply below_alloc | apply pw_below_drewN | apply below_drew1)); exact Below.refl _ _) : Below w.heap.size w w' := h
theorem zG {w : World} (h : GG w := by first | (with_reducible exact hG) | exact GG.below hG (by repeat (first | (with_reducible first | exact HB.out | apply below_alloc | apply pw_below_drewN | apply below_drew1 | refine below_set ?_ (Aside0.out (by assumption))) | exact HB.out))) : GG w := h
theorem zG2 {w : World} (h : GG w := by repeat (first | (with_reducible exact hG) | apply GG.drewN | apply GG.drew)) : GG w := h
theorem zP (p : Prop) [Decidable p] (h : decide p = true := by first | (with_reducible assumption) | assumption) : p = True := eq_true (of_decide_eq_true h)
theorem zQ (p : Prop) [Decidable p] (h : decide p = true := by first | (with_reducible assumption) | assumption) : p := of_decide_eq_true h
section
variable {α : Type} {c : Prop} {x y r : α}
theorem zI [Decidable c] (H : (if c then x else y) = r) : c ∧ x = r ∨ ¬ c ∧ y = r := by
  by_cases h : c
  · exact .inl ⟨h, by rwa [if_pos h] at H⟩
  · exact .inr ⟨h, by rwa [if_neg h] at H⟩
theorem zId [Decidable c] (H : (if c then x else y) = r) : c ∧ decide c = true ∧ x = r ∨ ¬ c ∧ decide c = false ∧ y = r := by
  rcases zI H with ⟨h, k⟩ | ⟨h, k⟩
  · exact .inl ⟨h, decide_eq_true h, k⟩
  · exact .inr ⟨h, decide_eq_false h, k⟩
theorem zIe {β : Type} [BEq β] [LawfulBEq β] {a b : β} [Decidable (a = b)] (H : (if a = b then x else y) = r) :
    a = b ∧ (a == b) = true ∧ (a != b) = false ∧ x = r ∨ ¬ a = b ∧ (a == b) = false ∧ (a != b) = true ∧ y = r := by
  rcases zI H with ⟨h, k⟩ | ⟨h, k⟩
  · exact .inl ⟨h, beq_iff_eq.mpr h, bne_eq_false_iff_eq.mpr h, k⟩
  · exact .inr ⟨h, beq_eq_false_iff_ne.mpr h, bne_iff_ne.mpr h, k⟩
theorem zIb {b : Bool} (H : (if b = true then x else y) = r) : b = true ∧ x = r ∨ b = false ∧ y = r := by
  cases b
  · exact .inr ⟨rfl, by rwa [if_neg (by decide)] at H⟩
  · exact .inl ⟨rfl, by rwa [if_pos rfl] at H⟩
theorem zH {p : Prop} (H : x = y) (h : ¬ (x = y) := by simp) : p := absurd H h
end
section
variable {α : Type} {c : Prop} {x : Option α} {r : α}
theorem zJ [Decidable c] (H : (if c then x else none) = some r) : c ∧ x = some r := by
  rcases zI H with h | ⟨_, h⟩
  · exact h
  · cases h
theorem zJd [Decidable c] (H : (if c then x else none) = some r) : c ∧ decide c = true ∧ x = some r := ⟨(zJ H).1, decide_eq_true (zJ H).1, (zJ H).2⟩
end
section
variable {w w1 W : World} {g g' : Nat} {t : TypeId} {a b c d e : Value} {l : List Value} {o : Obj} {n : Nat}
theorem zc0 (h : Aside0 (w.heap[g]? = some (.cells (a :: l).toArray t (0, 0)))) : w.cell? ⟨g, 0, none⟩ = some a := (blk_cell h.out 0).trans rfl
theorem zc1 (h : Aside0 (w.heap[g]? = some (.cells (a :: b :: l).toArray t (0, 0)))) : w.cell? ⟨g, 1, none⟩ = some b := (blk_cell h.out 1).trans rfl
theorem zc2 (h : Aside0 (w.heap[g]? = some (.cells (a :: b :: c :: l).toArray t (0, 0)))) : w.cell? ⟨g, 2, none⟩ = some c := (blk_cell h.out 2).trans rfl
theorem zf {cs : Array Value} (h : Aside0 (w.heap[g]? = some (.cells cs t (0, 0)))) (i : Nat) : w.frozen? ⟨g, i, none⟩ = false := blk_frozen h.out i
theorem zx {p : Addr} {v : Value} (HB : Aside0 (Below w.heap.size w w1)) (h : w.cell? p = some v) : w1.cell? p = some v := (HB.out.cell (World.block_lt_of_cell? w _ h)).trans h
theorem zg (w : World) (hg : g = W.heap.size) (h : Below w.heap.size w W := by repeat (first | (with_reducible first | exact HB.out | apply below_alloc | apply pw_below_drewN | apply below_drew1 | refine below_set ?_ (Aside0.out (by assumption))) | exact HB.out)) : Aside0 (w.heap.size ≤ g) := ⟨hg ▸ h.size⟩
theorem zn (h : Aside0 (w.heap[g']? = some o)) (hg : g = W.heap.size) (hx : Below w.heap.size w W := by (with_reducible repeat (first | apply below_alloc | apply pw_below_drewN | apply below_drew1)); exact Below.refl _ _) : Aside0 (g' ≠ g) := ⟨by rw [hg]; exact Nat.ne_of_lt (blk_lt (blk_below h.out hx))⟩
theorem zm (h : Aside0 (w.heap[g']? = some o)) (hg : g = W.heap.size) (hx : Below w.heap.size w W := by (with_reducible repeat (first | apply below_alloc | apply pw_below_drewN | apply below_drew1)); exact Below.refl _ _) : Aside0 (g ≠ g') := ⟨by rw [hg]; exact Nat.ne_of_gt (blk_lt (blk_below h.out hx))⟩
/-- A block's row behind a call. -/
theorem zb {W W' : World} (h : Aside0 (w.heap[g]? = some o)) (hb : Below W.heap.size W W') (hx : Below w.heap.size w W := by (with_reducible repeat (first | apply below_alloc | apply pw_below_drewN | apply below_drew1)); exact Below.refl _ _) : Aside0 (W'.heap[g]? = some o) := ⟨blk_below (blk_below h.out hx) hb⟩
theorem zw {W W' : World} (hb : Below W.heap.size W W') (h : Below w.heap.size w W := by repeat (first | (with_reducible first | exact HB.out | apply below_alloc | apply pw_below_drewN | apply below_drew1 | refine below_set ?_ (Aside0.out (by assumption))) | exact HB.out)) : Aside0 (Below w.heap.size w W') := ⟨below_step h hb⟩
end
section
variable {P : Program} {ops : Array Oper} {rest : List Oper} {o : Oper} {a : Act} {Q : Exit → Act → World → Prop} {W : World}
theorem zbox {N : Tmp} (cs : Array Value) (t : TypeId)
    (h : ∀ g, g = W.heap.size → ∀ w1, w1.heap[g]? = some (.cells cs t (0, 0)) → Below W.heap.size W w1 → wpList P ops Q rest (a.put o.dst (.pointer (some ⟨g, 0, none⟩))) w1)
    (hgd : o.guard = none := by rfl) (hd : o.dst = some N := by rfl)
    (hrun : (execOp a.eval o).run P W = .ok (.value (.pointer (some ⟨W.heap.size, 0, none⟩))) (W.alloc (.cells cs t (0, 0))) := by first | (go_simp; done) | (go_simp; rfl)) : wpList P ops Q (o :: rest) a W := box_event hgd hd hrun h
end
section
variable {α β : Type}
theorem zO {x : Option α} {f : α → Option β} {r : β} (H : x.bind f = some r) : ∃ a, Aside0 (x = some a) ∧ f a = some r := by
  obtain ⟨a, h, k⟩ := Option.bind_eq_some_iff.mp H
  exact ⟨a, ⟨h⟩, k⟩
end
/-- A row of marks, by a number's bits. -/
def bs (n m : Nat) : Array Bool := ((List.range n).map fun i => m.testBit i).toArray
section
variable {P : Program} {ops : Array Oper} {rest : List Oper} {oi : Oper} {a : Act} {Q : Exit → Act → World → Prop} {w : World} {f : FuncId} {fn : Func} {os : Array Operand} {ts : Array TypeId} {v : Value}
/-- A call by a contract that only draws. -/
theorem zq (N : Tmp) (hf : P.funcs[f]? = some fn) (args : Array Value) (hc : Calls P f args w fun e w' => e = .returned v ∧ Drawn0 w w') (h : ∀ nd, wpList P ops Q rest (a.put (some N) v) (w.drewN nd))
    (hd : oi.dst = some N := by rfl) (hg : oi.guard = none := by rfl) (hname : (fn.name == "runtime.NumGoroutine") = false := by kernel_rfl) (hb : fn.body.isSome = true := by rfl)
    (hop : oi.op = .call { callee := .value (.func f), args := os, argTypes := ts } := by rfl) (hargs : os.map a.eval = args := by (try simp only [List.map_toArray, List.map_cons, List.map_nil]); first | done | rfl | (simp only [List.length_drop, List.length_take]; rfl)) : wpList P ops Q (oi :: rest) a w :=
  goesL_ (some N) hd hg hf hname hb args hop hargs (hc.mono fun e w' ⟨he, ⟨nd, hw⟩⟩ => ⟨v, he, hw ▸ h nd⟩)
/-- .. by a contract that leaves what lies below. -/
theorem zqb (N : Tmp) (hf : P.funcs[f]? = some fn) (args : Array Value) (hc : Calls P f args w fun e w' => e = .returned v ∧ Below w.heap.size w w') (h : ∀ w', Below w.heap.size w w' → wpList P ops Q rest (a.put (some N) v) w')
    (hd : oi.dst = some N := by rfl) (hg : oi.guard = none := by rfl) (hname : (fn.name == "runtime.NumGoroutine") = false := by kernel_rfl) (hb : fn.body.isSome = true := by rfl)
    (hop : oi.op = .call { callee := .value (.func f), args := os, argTypes := ts } := by rfl) (hargs : os.map a.eval = args := by (try simp only [List.map_toArray, List.map_cons, List.map_nil]); first | done | rfl | (simp only [List.length_drop, List.length_take]; rfl)) : wpList P ops Q (oi :: rest) a w :=
  goesL_ (some N) hd hg hf hname hb args hop hargs (hc.mono fun e w' ⟨he, hB⟩ => ⟨v, he, h w' hB⟩)
end
section
variable {P : Program} {ops : Array Oper} {Q : Exit → Act → World → Prop} {md : Region.Mode} {S : World → Prop} {ds : List Nat} {i : Nat} {N : Option Tmp} {oi : Oper} {v : Value} {fuel : Nat} {l : Array Bool} {a a' : Act} {w : World}
theorem zp (i : Nat) (N : Tmp) (l' : Array Bool) (h : wpAnyLast P md ops Q S ds fuel l' a' w) (hi : ops[i]? = some oi := by rfl) (hN : oi.dst = some N := by rfl) (hc : anyB md ops l l' i = true := by exact any_of HT_.out (by kernel_rfl))
    (hQ : ∀ c a w, Q (.panic c) (a.put oi.dst v) w → Q (.panic c) a w := by exact fun _ _ _ h => h) (hy : Yields P ops oi v a := by exact Or.inl ⟨by rfl, by intro w'; go_simp; with_reducible rfl⟩)
    (ha : a.put (some N) v = a' := by simp only [Act.put, List.setIfInBounds_toArray, List.set_cons_zero, List.set_cons_succ, i64_w, i32_w]; rfl) : wpAnyLast P md ops Q S ds (fuel + 1) l a w := pure_ l' hi hN hc hQ hy ha h
theorem zu (i : Nat) (N : Tmp) (l' : Array Bool) (h : wpAnyLast P md ops Q S ds fuel l' a' w) (hi : ops[i]? = some oi := by rfl) (hN : oi.dst = some N := by rfl) (hc : anyB md ops l l' i = true := by exact any_of HT_.out (by kernel_rfl))
    (hQ : ∀ c a w, Q (.panic c) (a.put oi.dst undef) w → Q (.panic c) a w := by exact fun _ _ _ h => h) (hy : Yields P ops oi undef a := by exact Or.inr ⟨by rfl, rfl⟩)
    (ha : a.put (some N) undef = a' := by simp only [Act.put, List.setIfInBounds_toArray, List.set_cons_zero, List.set_cons_succ, i64_w, i32_w]; rfl) : wpAnyLast P md ops Q S ds (fuel + 1) l a w := pure_ l' hi hN hc hQ hy ha h
theorem zt (i : Nat) (N : Tmp) (l' : Array Bool) (h : wpAnyLast P md ops Q S ds fuel l' a' w) (hi : ops[i]? = some oi := by rfl) (hN : oi.dst = some N := by rfl) (hc : takeB md ops ds l l' i = true := by exact take_ofW HT_.out HW_.out (by kernel_rfl))
    (hQ : ∀ c a w, Q (.panic c) (a.put oi.dst v) w → Q (.panic c) a w := by exact fun _ _ _ h => h) (hy : YieldsIf P ops S oi v a := by exact Or.inl ⟨by rfl, by intro w' hs; (repeat (have s_ := And.left hs; replace hs := And.right hs)); go_simp; with_reducible rfl⟩) (hS : S w := by exact hHeld)
    (ha : a.put (some N) v = a' := by simp only [Act.put, List.setIfInBounds_toArray, List.set_cons_zero, List.set_cons_succ, i64_w, i32_w]; rfl) : wpAnyLast P md ops Q S ds (fuel + 1) l a w := take_ l' hi hN hc hQ hy hS ha h
theorem zr (h : wpAnyLast P md ops Q S ds fuel l a' w) (ha : a = a' := by show Act.put _ _ _ = _; simp only [Act.put, List.setIfInBounds_toArray, List.set_cons_zero, List.set_cons_succ, i64_w, i32_w]; rfl) : wpAnyLast P md ops Q S ds fuel l a w := norm_ ha h
end
end Go.Proofs.YtdojmdbaiddkgaaGreatDoor.Print
end
section
namespace Go.Proofs.YtdojmdbaiddkgaaGreatDoor.Print
open Go.RowKit Go.Proofs.YtdojmdbaiddkgaaGreatDoorW.PrintWords Go.Proofs.YtdojmdbaiddkgaaGreatDoorW.PrintLast
set_option linter.unusedVariables false
set_option linter.unusedSimpArgs false
mutual
def tree_Count.l0 : Nat → Int → List (S31) → Int → Int → Option (Int)
 | 0, _, _, _, _ => none
 | k + 1, x3, x11, x12, x13 => if x13 < x12 then (if 0 ≤ x13 then (if x13 < (x11.length : Int) then ((tree_Count.f k ((rd_T31 x11 x13).f0) ((rd_T31 x11 x13).f1) ((rd_T31 x11 x13).f2)).bind fun t104 => (tree_Count.l0 k (wrap64 (x3 + t104)) x11 x12 (wrap64 (x13 + 1)))) else (none)) else (none)) else (some x3)
def tree_Count.f : Nat → ByteArray → List (S49) → List (S31) → Option (Int)
 | 0, _, _, _ => none
 | k + 1, a0_0, l0_1, l0_2 => tree_Count.l0 k (wrap64 (2 + (l0_1.length : Int))) l0_2 (l0_2.length : Int) 0
end
theorem tree_Count.mono_l : ∀ k, (∀ y0 y1 y2, LeO (tree_Count.f k y0 y1 y2) (tree_Count.f (k + 1) y0 y1 y2)) ∧ (∀ y0 y1 y2 y3, LeO (tree_Count.l0 k y0 y1 y2 y3) (tree_Count.l0 (k + 1) y0 y1 y2 y3))
 | 0 => ⟨fun _ _ _ r h => by simp [tree_Count.f] at h, fun _ _ _ _ r h => by simp [tree_Count.l0] at h⟩
 | k + 1 => by
  obtain ⟨ih0, ih1⟩ := tree_Count.mono_l k
  refine ⟨?_, ?_⟩
  all_goals intros
  all_goals first | unfold tree_Count.f | unfold tree_Count.l0
  all_goals repeat' first
   | (with_reducible first | exact ih0 _ _ _ | exact ih1 _ _ _ _ | exact LeO.refl _ | exact LeO.none _ | refine LeO.ite ?_ ?_ | refine LeO.bind ?_ (fun _ => ?_)) | exact ih0 _ _ _ | exact ih1 _ _ _ _ | exact LeO.none _ | refine LeO.ite ?_ ?_ | refine LeO.bind ?_ (fun _ => ?_)
theorem tree_Count.mono : ∀ a0 a1 a2 k, LeO (tree_Count.f k a0 a1 a2) (tree_Count.f (k + 1) a0 a1 a2) := by
 intro a0 a1 a2 k
 obtain ⟨ih0, ih1⟩ := tree_Count.mono_l k
 exact ih0 a0 a1 a2
set_option maxHeartbeats 8000000 in
set_option maxRecDepth 100000 in
theorem tree_Count.calls (k : Nat) : ∀ (a0_0 : ByteArray) (A0_1 : Option Addr) (c0_1 : Nat) (l0_1 : List (S49)) (A0_2 : Option Addr) (c0_2 : Nat) (l0_2 : List (S31)) (r : Int) (w : World) (hG : GG w) (hr0_1 : Kd.C k49 w A0_1 l0_1.length l0_1) (hc0_1 : l0_1.length ≤ c0_1) (hr0_2 : Kd.C k31 w A0_2 l0_2.length l0_2) (hc0_2 : l0_2.length ≤ c0_2) (h : tree_Count.f k a0_0 l0_1 l0_2 = some r),
  Calls Tryz.prog 13 #[.agg #[.string a0_0, .slice A0_1 l0_1.length c0_1, .slice A0_2 l0_2.length c0_2]] w fun e w' => e = .returned (.int .i64 r) ∧ Below w.heap.size w w' := by
 induction k using Nat.strongRecOn with
 | _ k ih =>
 intro a0_0 A0_1 c0_1 l0_1 A0_2 c0_2 l0_2 r w hG hr0_1 hc0_1 hr0_2 hc0_2 h
 cases k with
 | zero => exact absurd h (by simp [tree_Count.f])
 | succ k =>
 simp only [tree_Count.f] at h; have hu31 := Tryz.underlying31; have HR0_1 := Aside0.mk hr0_1; have HC0_1 := Aside0.mk hc0_1; clear hr0_1 hc0_1; have HR0_2 := Aside0.mk hr0_2; have HC0_2 := Aside0.mk hc0_2; clear hr0_2 hc0_2; have HB := Aside0.mk (Below.refl w.heap.size w); have H : (tree_Count.l0 k (wrap64 (2 + (l0_1.length : Int))) l0_2 (l0_2.length : Int) 0) = some r := h; clear h; have H' := Aside0.mk H; clear H
 go_enter Tryz.func13, Tryz.ntmps13
 go_wp2_with (first | ((with_reducible refine gate_dst (N := 1) rfl ?_); refine zbox (N := 1) #[.string a0_0, .slice A0_1 l0_1.length c0_1, .slice A0_2 l0_2.length c0_2] 31 (fun gb101 hg w2 hbox hb => ?_); have n0_ := zw hb; have n1_ := Aside0.mk hbox; have n2_ := zg w hg; have n3_ := zg w hg; clear HB; have HB := n0_; have BK101 := n1_; have GW101 := n2_; have GE101 := n3_; clear n0_ n1_ n2_ n3_; clear hb hbox hg; have hcz3_0 := zc0 BK101; have hcz3_1 := zc1 BK101; have hcz3_2 := zc2 BK101; have hfz3_0 := zf BK101 0; have hfz3_1 := zf BK101 1; have hfz3_2 := zf BK101 2))
 go_loopg [3, 13] k (fun kq v3 v13 w' => ∃ (x3_1 : Int) (x13_1 : Int), v3 = .int .i64 x3_1 ∧ v13 = .int .i64 x13_1 ∧ Aside0 (tree_Count.l0 kq x3_1 l0_2 (l0_2.length : Int) x13_1 = some r) ∧ Aside0 (kq ≤ k) ∧ Aside0 (w'.heap[gb101]? = some (.cells #[.string a0_0, (.slice A0_1 l0_1.length c0_1), (.slice A0_2 l0_2.length c0_2)] 31 (0, 0))) ∧ Aside0 (Below w.heap.size w w'))
 case atStart => exact ⟨(wrap64 (2 + (l0_1.length : Int))), (0), zS, zS, H', ⟨Nat.le_refl _⟩, ⟨blk_below BK101.out zX⟩, ⟨zB⟩⟩
 case round =>
  clear H'; clear hcz3_0 hcz3_1 hcz3_2 hfz3_0 hfz3_1 hfz3_2; obtain ⟨x3_1, x13_1, rfl, rfl, HA, HK1, BK101, HB⟩ := hrel
  cases gk with
  | zero => exact absurd HA.out (by simp [tree_Count.l0])
  | succ k1 =>
   have H := HA.out; clear HA; simp only [tree_Count.l0] at H; replace H := zId H; rcases H with ⟨-, c4b0, H⟩ | ⟨-, c4b0, H⟩
   ·replace H := zJd H; obtain ⟨-, c5b0, H⟩ := H; replace H := zJd H; obtain ⟨-, c6b0, H⟩ := H; replace H := zO H; obtain ⟨t104, A7, H⟩ := H; have H' := Aside0.mk H; clear H; have p102 := zQ (0 ≤ (x13_1 : Int)); have q102 := zQ (x13_1 < (l0_2.length : Int)); obtain ⟨ad102, A102_1, c102_1, A102_2, c102_2, e102, hx102_0, hx102_1, hx102_2, hl102_1, hi102_1, hl102_2, hi102_2⟩ := at_T31 HR0_2.out x13_1 p102 q102
    cases e102
    replace hx102_0 := zx HB hx102_0; replace hx102_1 := zx HB hx102_1; replace hx102_2 := zx HB hx102_2; have HR102_1 := Aside0.mk hi102_1; have HC102_1 := Aside0.mk hl102_1; clear hi102_1 hl102_1; have HR102_2 := Aside0.mk hi102_2; have HC102_2 := Aside0.mk hl102_2; clear hi102_2 hl102_2; replace p102 := eq_true p102; replace q102 := eq_true q102
    go_wp2_with (first | ((with_reducible refine gate_dst (N := 5) rfl ?_); refine zbox (N := 5) #[.string (⟨#[]⟩ : ByteArray), .slice none 0 0, .slice none 0 0] 31 (fun gb103 hg w8 hbox hb => ?_); replace BK103 := Aside0.mk hbox; replace GW103 := zg w hg; replace GE103 := zg w hg; replace HB := zw hb; replace NB101_103 := zn BK101 hg; replace NB103_101 := zm BK101 hg; replace BK101 := zb BK101 hb; clear hb hbox hg; have hnb9 := NB103_101.out; have hnc9 := NB101_103.out; have hcz10_0 := zc0 BK103; have hcz10_1 := zc1 BK103; have hcz10_2 := zc2 BK103; have hfz10_0 := zf BK103 0; have hfz10_1 := zf BK103 1; have hfz10_2 := zf BK103 2) | ((with_reducible refine gate_callee (f := 13) rfl ?_); refine goesL_ (some 19) rfl rfl Tryz.func13 (by kernel_rfl) rfl #[.agg #[.string ((rd_T31 l0_2 x13_1).f0), .slice A102_1 ((rd_T31 l0_2 x13_1).f1).length c102_1, .slice A102_2 ((rd_T31 l0_2 x13_1).f2).length c102_2]] rfl zA ?_; (with_reducible refine (ih k1 (by have := HK1.out; omega) ((rd_T31 l0_2 x13_1).f0) _ _ ((rd_T31 l0_2 x13_1).f1) _ _ ((rd_T31 l0_2 x13_1).f2) t104 _ zG ?side1 ?side2 ?side3 ?side4 A7.out).mono ?_); (case side1 => exact Kd.C_below HR102_1.out zB); (case side2 => exact HC102_1.out); (case side3 => exact Kd.C_below HR102_2.out zB); (case side4 => exact HC102_2.out); rintro e w11 ⟨rfl, hb⟩; refine ⟨_, rfl, ?_⟩; replace BK101 := Aside0.mk (blk_below (g := gb101) (o := .cells #[.string a0_0, .slice A0_1 l0_1.length c0_1, .slice (some ad102) l0_2.length c0_2] 31 (0, 0)) (by (with_reducible repeat (first | refine blk_drewN ?_ _ | refine blk_drew ?_ | refine blk_alloc ?_ _)); refine blk_far ?_ NB101_103.out _; (with_reducible repeat (first | refine blk_drewN ?_ _ | refine blk_drew ?_ | refine blk_alloc ?_ _)); refine blk_far ?_ NB101_103.out _; (with_reducible repeat (first | refine blk_drewN ?_ _ | refine blk_drew ?_ | refine blk_alloc ?_ _)); refine blk_far ?_ NB101_103.out _; (with_reducible repeat (first | refine blk_drewN ?_ _ | refine blk_drew ?_ | refine blk_alloc ?_ _)); exact BK101.out) hb); replace BK103 := Aside0.mk (blk_below (g := gb103) (o := .cells #[.string ((rd_T31 l0_2 x13_1).f0), .slice A102_1 ((rd_T31 l0_2 x13_1).f1).length c102_1, .slice A102_2 ((rd_T31 l0_2 x13_1).f2).length c102_2] 31 (0, 0)) (by (with_reducible repeat (first | refine blk_drewN ?_ _ | refine blk_drew ?_ | refine blk_alloc ?_ _)); refine blk_put (cs := #[.string ((rd_T31 l0_2 x13_1).f0), .slice A102_1 ((rd_T31 l0_2 x13_1).f1).length c102_1, .slice none 0 0]) ?_ 2 _ rfl; (with_reducible repeat (first | refine blk_drewN ?_ _ | refine blk_drew ?_ | refine blk_alloc ?_ _)); refine blk_put (cs := #[.string ((rd_T31 l0_2 x13_1).f0), .slice none 0 0, .slice none 0 0]) ?_ 1 _ rfl; (with_reducible repeat (first | refine blk_drewN ?_ _ | refine blk_drew ?_ | refine blk_alloc ?_ _)); refine blk_put (cs := #[.string (⟨#[]⟩ : ByteArray), .slice none 0 0, .slice none 0 0]) ?_ 0 _ rfl; (with_reducible repeat (first | refine blk_drewN ?_ _ | refine blk_drew ?_ | refine blk_alloc ?_ _)); exact BK103.out) hb); replace HB := zw hb; (try clear hb)))
    go_roundg k1
    case measure => have := HK1.out; omega
    case rel => exact ⟨(wrap64 (x3_1 + t104)), (wrap64 (x13_1 + 1)), zS, zS, H', ⟨by have := HK1.out; omega⟩, ⟨blk_below BK101.out zX⟩, ⟨zB⟩⟩
   ·obtain rfl := Option.some.inj H; go_wp2; go_ret; exact ⟨zE, zB⟩
def fold_goesOn.f (a0 : Int) : Option (Bool) := if a0 = 32 then (some true) else (some (a0 == 9))
set_option maxHeartbeats 8000000 in
set_option maxRecDepth 100000 in
theorem fold_goesOn.calls (a0 : Int) (r : Bool) (w : World) (hG : GG w) (h : fold_goesOn.f a0 = some r) :
  Calls Tryz.prog 37 #[.int .u8 a0] w fun e w' => e = .returned (.bool r) ∧ Drawn0 w w' := by
 have H : (if a0 = 32 then (some true) else (some (a0 == 9))) = some r := h; clear h; replace H := zIe H; rcases H with ⟨-, c2b0, c2b1, H⟩ | ⟨c2, c2b0, c2b1, H⟩
 ·obtain rfl := Option.some.inj H
  go_enter Tryz.func37, Tryz.ntmps37
  go_wp2; go_ret
  exact ⟨zS, zD⟩
 ·obtain rfl := Option.some.inj H
  go_enter Tryz.func37, Tryz.ntmps37
  go_wp2; go_ret
  exact ⟨zS, zD⟩
def stringslite_HasSuffix.f (a0 : ByteArray) (a1 : ByteArray) : Option (Bool) := if (a0.size : Int) ≥ (a1.size : Int) then (if 0 ≤ (wrap64 ((a0.size : Int) - (a1.size : Int))) then (if (wrap64 ((a0.size : Int) - (a1.size : Int))) ≤ (a0.size : Int) then (some ((a0.extract ((wrap64 ((a0.size : Int) - (a1.size : Int))) : Int).toNat a0.size).toList == a1.toList)) else (none)) else (none)) else (some false)
set_option maxHeartbeats 8000000 in
set_option maxRecDepth 100000 in
theorem stringslite_HasSuffix.calls (a0 : ByteArray) (a1 : ByteArray) (r : Bool) (w : World) (hG : GG w) (h : stringslite_HasSuffix.f a0 a1 = some r) :
  Calls Tryz.prog 108 #[.string a0, .string a1] w fun e w' => e = .returned (.bool r) ∧ Drawn0 w w' := by
 have H : (if (a0.size : Int) ≥ (a1.size : Int) then (if 0 ≤ (wrap64 ((a0.size : Int) - (a1.size : Int))) then (if (wrap64 ((a0.size : Int) - (a1.size : Int))) ≤ (a0.size : Int) then (some ((a0.extract ((wrap64 ((a0.size : Int) - (a1.size : Int))) : Int).toNat a0.size).toList == a1.toList)) else (none)) else (none)) else (some false)) = some r := h; clear h; replace H := zI H; rcases H with ⟨c3, H⟩ | ⟨c3, H⟩
 ·have c3b0 : decide ((a1.size : Int) ≤ (a0.size : Int)) = true := decide_eq_true c3; have c3b1 : decide (a1.size ≤ a0.size) = true := decide_eq_true (Int.ofNat_le.mp c3); clear c3; obtain ⟨ji4, hji4⟩ : ∃ j_ : Int, (wrap64 ((a0.size : Int) - (a1.size : Int))) = j_ := ⟨_, rfl⟩; replace H : (if 0 ≤ (ji4) then (if (ji4) ≤ (a0.size : Int) then (some ((a0.extract ((ji4) : Int).toNat a0.size).toList == a1.toList)) else (none)) else (none)) = some r := by first | (rw [hji4] at H; exact H) | (simp only [hji4] at H ⊢; exact H)
  have hji4w : (IntKind.i64.wrap ((a0.size : Int) - (a1.size : Int))) = ji4 := (i64_w _).trans hji4; replace H := zJ H; obtain ⟨c5, H⟩ := H; have c5b0 := eq_true c5; have c5b1 : decide (0 ≤ (ji4)) = true := decide_eq_true c5; clear c5; replace H := zJ H; obtain ⟨c6, H⟩ := H; have c6b0 := eq_true c6; have c6b1 : decide ((ji4) ≤ (a0.size : Int)) = true := decide_eq_true c6; clear c6; obtain rfl := Option.some.inj H
  go_enter Tryz.func108, Tryz.ntmps108
  go_wp2; go_ret
  exact ⟨by first | rfl | (simp; done) | (simp only [← hji4] <;> (first | rfl | simp)) | (simp [*]; done), zD⟩
 ·have c3b0 : decide ((a1.size : Int) ≤ (a0.size : Int)) = false := decide_eq_false c3; have c3b1 : decide (a1.size ≤ a0.size) = false := decide_eq_false (fun h => c3 (Int.ofNat_le.mpr h)); clear c3; obtain rfl := Option.some.inj H
  go_enter Tryz.func108, Tryz.ntmps108
  go_wp2; go_ret
  exact ⟨zS, zD⟩
def stringslite_TrimSuffix.f (a0 : ByteArray) (a1 : ByteArray) : Option (ByteArray) := (stringslite_HasSuffix.f a0 a1).bind fun t105 => (if t105 = true then (if 0 ≤ (wrap64 ((a0.size : Int) - (a1.size : Int))) then (if (wrap64 ((a0.size : Int) - (a1.size : Int))) ≤ (a0.size : Int) then (some (a0.extract 0 ((wrap64 ((a0.size : Int) - (a1.size : Int))) : Int).toNat)) else (none)) else (none)) else (some a0))
set_option maxHeartbeats 8000000 in
set_option maxRecDepth 100000 in
theorem stringslite_TrimSuffix.calls (a0 : ByteArray) (a1 : ByteArray) (r : ByteArray) (w : World) (hG : GG w) (h : stringslite_TrimSuffix.f a0 a1 = some r) :
  Calls Tryz.prog 101 #[.string a0, .string a1] w fun e w' => e = .returned (.string r) ∧ Drawn0 w w' := by
 have H : ((stringslite_HasSuffix.f a0 a1).bind fun t105 => (if t105 = true then (if 0 ≤ (wrap64 ((a0.size : Int) - (a1.size : Int))) then (if (wrap64 ((a0.size : Int) - (a1.size : Int))) ≤ (a0.size : Int) then (some (a0.extract 0 ((wrap64 ((a0.size : Int) - (a1.size : Int))) : Int).toNat)) else (none)) else (none)) else (some a0))) = some r := h; clear h; replace H := zO H; obtain ⟨t105, A3, H⟩ := H; replace H := zIb H; rcases H with ⟨rfl, H⟩ | ⟨rfl, H⟩
 ·obtain ⟨ji5, hji5⟩ : ∃ j_ : Int, (wrap64 ((a0.size : Int) - (a1.size : Int))) = j_ := ⟨_, rfl⟩; replace H : (if 0 ≤ (ji5) then (if (ji5) ≤ (a0.size : Int) then (some (a0.extract 0 ((ji5) : Int).toNat)) else (none)) else (none)) = some r := by first | (rw [hji5] at H; exact H) | (simp only [hji5] at H ⊢; exact H)
  (try rw [hji5] at A3); have hji5w : (IntKind.i64.wrap ((a0.size : Int) - (a1.size : Int))) = ji5 := (i64_w _).trans hji5; replace H := zJ H; obtain ⟨c6, H⟩ := H; have c6b0 := eq_true c6; have c6b1 : decide (0 ≤ (ji5)) = true := decide_eq_true c6; clear c6; replace H := zJ H; obtain ⟨c7, H⟩ := H; have c7b0 := eq_true c7; have c7b1 : decide ((ji5) ≤ (a0.size : Int)) = true := decide_eq_true c7; clear c7; obtain rfl := Option.some.inj H
  go_enter Tryz.func101, Tryz.ntmps101
  go_wp2_with (first | ((with_reducible refine gate_callee (f := 108) rfl ?_); refine zq 7 Tryz.func108 #[.string a0, .string a1] (stringslite_HasSuffix.calls a0 a1 true _ zG2 A3.out) (fun nd => ?_)))
  go_ret; exact ⟨by first | rfl | (simp; done) | (simp only [← hji5] <;> (first | rfl | simp)) | (simp [*]; done), zD⟩
 ·obtain rfl := Option.some.inj H
  go_enter Tryz.func101, Tryz.ntmps101
  go_wp2_with (first | ((with_reducible refine gate_callee (f := 108) rfl ?_); refine zq 7 Tryz.func108 #[.string a0, .string a1] (stringslite_HasSuffix.calls a0 a1 false _ zG2 A3.out) (fun nd => ?_)))
  go_ret; exact ⟨zS, zD⟩
def strings_TrimSuffix.f (a0 : ByteArray) (a1 : ByteArray) : Option (ByteArray) := (stringslite_TrimSuffix.f a0 a1).bind fun t106 => (some t106)
set_option maxHeartbeats 8000000 in
set_option maxRecDepth 100000 in
theorem strings_TrimSuffix.calls (a0 : ByteArray) (a1 : ByteArray) (r : ByteArray) (w : World) (hG : GG w) (h : strings_TrimSuffix.f a0 a1 = some r) :
  Calls Tryz.prog 91 #[.string a0, .string a1] w fun e w' => e = .returned (.string r) ∧ Drawn0 w w' := by
 have H : ((stringslite_TrimSuffix.f a0 a1).bind fun t106 => (some t106)) = some r := h; clear h; replace H := zO H; obtain ⟨t106, A3, H⟩ := H; obtain rfl := Option.some.inj H
 go_enter Tryz.func91, Tryz.ntmps91
 go_wp2_with (first | ((with_reducible refine gate_callee (f := 101) rfl ?_); refine zq 7 Tryz.func101 #[.string a0, .string a1] (stringslite_TrimSuffix.calls a0 a1 t106 _ zG2 A3.out) (fun nd => ?_)))
 go_ret; exact ⟨zS, zD⟩
def fold_piece.f (a0 : ByteArray) : Option (ByteArray × ByteArray × Bool) := (strings_IndexByte.f a0 10).bind fun t107 => (if t107 < 0 then (some ((⟨#[]⟩ : ByteArray), (⟨#[]⟩ : ByteArray), false)) else (if 0 ≤ t107 then (if t107 ≤ (a0.size : Int) then ((strings_TrimSuffix.f (a0.extract 0 (t107 : Int).toNat) (⟨#[13]⟩ : ByteArray)).bind fun t108 => (if 0 ≤ (wrap64 (t107 + 1)) then (if (wrap64 (t107 + 1)) ≤ (a0.size : Int) then (if t108.toList = ([] : List UInt8) then (some (t108, a0.extract ((wrap64 (t107 + 1)) : Int).toNat a0.size, false)) else ((strings_ContainsRune.f t108 13).bind fun t109 => (some (t108, a0.extract ((wrap64 (t107 + 1)) : Int).toNat a0.size, !t109)))) else (none)) else (none))) else (none)) else (none)))
set_option maxHeartbeats 8000000 in
set_option maxRecDepth 100000 in
theorem fold_piece.calls (a0 : ByteArray) (r1 : ByteArray) (r2 : ByteArray) (r3 : Bool) (w : World) (hG : GG w) (h : fold_piece.f a0 = some (r1, r2, r3)) :
  Calls Tryz.prog 75 #[.string a0] w fun e w' => e = .returned (.tuple #[.string r1, .string r2, .bool r3]) ∧ Drawn0 w w' := by
 have H : ((strings_IndexByte.f a0 10).bind fun t107 => (if t107 < 0 then (some ((⟨#[]⟩ : ByteArray), (⟨#[]⟩ : ByteArray), false)) else (if 0 ≤ t107 then (if t107 ≤ (a0.size : Int) then ((strings_TrimSuffix.f (a0.extract 0 (t107 : Int).toNat) (⟨#[13]⟩ : ByteArray)).bind fun t108 => (if 0 ≤ (wrap64 (t107 + 1)) then (if (wrap64 (t107 + 1)) ≤ (a0.size : Int) then (if t108.toList = ([] : List UInt8) then (some (t108, a0.extract ((wrap64 (t107 + 1)) : Int).toNat a0.size, false)) else ((strings_ContainsRune.f t108 13).bind fun t109 => (some (t108, a0.extract ((wrap64 (t107 + 1)) : Int).toNat a0.size, !t109)))) else (none)) else (none))) else (none)) else (none)))) = some (r1, r2, r3) := h; clear h; replace H := zO H; obtain ⟨t107, A2, H⟩ := H; replace H := zId H; rcases H with ⟨-, c3b0, H⟩ | ⟨-, c3b0, H⟩
 ·simp only [Option.some.injEq, Prod.mk.injEq] at H; obtain ⟨rfl, rfl, rfl⟩ := H
  go_enter Tryz.func75, Tryz.ntmps75
  iterate 5 (first | go_quiet (first | (go_at_call 90; (with_reducible refine (strings_IndexByte.calls a0 10 t107 _ zG2 A2.out).mono ?_); rintro e w' ⟨rfl, ⟨nd, rfl⟩⟩; (try first | exact ⟨rfl, _, World.drewN_drewN _ _ _⟩ | exact ⟨rfl, _, Eq.trans (World.drewN_drewN _ _ _) (congrArg (World.drewN _) (Nat.add_assoc _ _ _))⟩))) | go_wp2_with (first | (go_at_call 90; (with_reducible refine (strings_IndexByte.calls a0 10 t107 _ zG2 A2.out).mono ?_); rintro e w' ⟨rfl, ⟨nd, rfl⟩⟩; (try first | exact ⟨rfl, _, World.drewN_drewN _ _ _⟩ | exact ⟨rfl, _, Eq.trans (World.drewN_drewN _ _ _) (congrArg (World.drewN _) (Nat.add_assoc _ _ _))⟩))))
  go_ret3
  exact ⟨zS, zD⟩
 ·replace H := zI H; rcases H with ⟨c4, H⟩ | ⟨c4, H⟩
  ·have c4b0 := eq_true c4; have c4b1 : decide (0 ≤ t107) = true := decide_eq_true c4; clear c4; replace H := zJ H; obtain ⟨c5, H⟩ := H; have c5b0 := eq_true c5; have c5b1 : decide (t107 ≤ (a0.size : Int)) = true := decide_eq_true c5; clear c5; replace H := zO H; obtain ⟨t108, A6, H⟩ := H; obtain ⟨ji7, hji7⟩ : ∃ j_ : Int, (wrap64 (t107 + 1)) = j_ := ⟨_, rfl⟩; replace H : (if 0 ≤ (ji7) then (if (ji7) ≤ (a0.size : Int) then (if t108.toList = ([] : List UInt8) then (some (t108, a0.extract ((ji7) : Int).toNat a0.size, false)) else ((strings_ContainsRune.f t108 13).bind fun t109 => (some (t108, a0.extract ((ji7) : Int).toNat a0.size, !t109)))) else (none)) else (none)) = some (r1, r2, r3) := by first | (rw [hji7] at H; exact H) | (simp only [hji7] at H ⊢; exact H)
   (try rw [hji7] at A2); (try rw [hji7] at A6); have hji7w : (IntKind.i64.wrap (t107 + 1)) = ji7 := (i64_w _).trans hji7; replace H := zJ H; obtain ⟨c8, H⟩ := H; have c8b0 := eq_true c8; have c8b1 : decide (0 ≤ (ji7)) = true := decide_eq_true c8; clear c8; replace H := zJ H; obtain ⟨c9, H⟩ := H; have c9b0 := eq_true c9; have c9b1 : decide ((ji7) ≤ (a0.size : Int)) = true := decide_eq_true c9; clear c9; replace H := zIe H; rcases H with ⟨-, c10b0, c10b1, H⟩ | ⟨c10, c10b0, c10b1, H⟩
   ·simp only [Option.some.injEq, Prod.mk.injEq] at H; obtain ⟨rfl, rfl, rfl⟩ := H
    go_enter Tryz.func75, Tryz.ntmps75
    iterate 5 (first | go_quiet (first | (go_at_call 90; (with_reducible refine (strings_IndexByte.calls a0 10 t107 _ zG2 A2.out).mono ?_); rintro e w' ⟨rfl, ⟨nd, rfl⟩⟩; (try first | exact ⟨rfl, _, World.drewN_drewN _ _ _⟩ | exact ⟨rfl, _, Eq.trans (World.drewN_drewN _ _ _) (congrArg (World.drewN _) (Nat.add_assoc _ _ _))⟩)) | (go_at_call 91; (with_reducible refine (strings_TrimSuffix.calls (a0.extract 0 (t107 : Int).toNat) (⟨#[13]⟩ : ByteArray) t108 _ zG2 A6.out).mono ?_); rintro e w' ⟨rfl, ⟨nd, rfl⟩⟩; (try first | exact ⟨rfl, _, World.drewN_drewN _ _ _⟩ | exact ⟨rfl, _, Eq.trans (World.drewN_drewN _ _ _) (congrArg (World.drewN _) (Nat.add_assoc _ _ _))⟩))) | go_wp2_with (first | (go_at_call 90; (with_reducible refine (strings_IndexByte.calls a0 10 t107 _ zG2 A2.out).mono ?_); rintro e w' ⟨rfl, ⟨nd, rfl⟩⟩; (try first | exact ⟨rfl, _, World.drewN_drewN _ _ _⟩ | exact ⟨rfl, _, Eq.trans (World.drewN_drewN _ _ _) (congrArg (World.drewN _) (Nat.add_assoc _ _ _))⟩)) | (go_at_call 91; (with_reducible refine (strings_TrimSuffix.calls (a0.extract 0 (t107 : Int).toNat) (⟨#[13]⟩ : ByteArray) t108 _ zG2 A6.out).mono ?_); rintro e w' ⟨rfl, ⟨nd, rfl⟩⟩; (try first | exact ⟨rfl, _, World.drewN_drewN _ _ _⟩ | exact ⟨rfl, _, Eq.trans (World.drewN_drewN _ _ _) (congrArg (World.drewN _) (Nat.add_assoc _ _ _))⟩))))
    go_ret3
    exact ⟨by first | rfl | (simp; done) | (simp only [← hji7] <;> (first | rfl | simp)) | (simp [*]; done), zD⟩
   ·replace H := zO H; obtain ⟨t109, A11, H⟩ := H; simp only [Option.some.injEq, Prod.mk.injEq] at H; obtain ⟨rfl, rfl, rfl⟩ := H
    go_enter Tryz.func75, Tryz.ntmps75
    iterate 5 (first | go_quiet (first | (go_at_call 90; (with_reducible refine (strings_IndexByte.calls a0 10 t107 _ zG2 A2.out).mono ?_); rintro e w' ⟨rfl, ⟨nd, rfl⟩⟩; (try first | exact ⟨rfl, _, World.drewN_drewN _ _ _⟩ | exact ⟨rfl, _, Eq.trans (World.drewN_drewN _ _ _) (congrArg (World.drewN _) (Nat.add_assoc _ _ _))⟩)) | (go_at_call 91; (with_reducible refine (strings_TrimSuffix.calls (a0.extract 0 (t107 : Int).toNat) (⟨#[13]⟩ : ByteArray) t108 _ zG2 A6.out).mono ?_); rintro e w' ⟨rfl, ⟨nd, rfl⟩⟩; (try first | exact ⟨rfl, _, World.drewN_drewN _ _ _⟩ | exact ⟨rfl, _, Eq.trans (World.drewN_drewN _ _ _) (congrArg (World.drewN _) (Nat.add_assoc _ _ _))⟩)) | (go_at_call 92; (with_reducible refine (strings_ContainsRune.calls t108 13 t109 _ zG2 A11.out).mono ?_); rintro e w' ⟨rfl, ⟨nd, rfl⟩⟩; (try first | exact ⟨rfl, _, World.drewN_drewN _ _ _⟩ | exact ⟨rfl, _, Eq.trans (World.drewN_drewN _ _ _) (congrArg (World.drewN _) (Nat.add_assoc _ _ _))⟩))) | go_wp2_with (first | (go_at_call 90; (with_reducible refine (strings_IndexByte.calls a0 10 t107 _ zG2 A2.out).mono ?_); rintro e w' ⟨rfl, ⟨nd, rfl⟩⟩; (try first | exact ⟨rfl, _, World.drewN_drewN _ _ _⟩ | exact ⟨rfl, _, Eq.trans (World.drewN_drewN _ _ _) (congrArg (World.drewN _) (Nat.add_assoc _ _ _))⟩)) | (go_at_call 91; (with_reducible refine (strings_TrimSuffix.calls (a0.extract 0 (t107 : Int).toNat) (⟨#[13]⟩ : ByteArray) t108 _ zG2 A6.out).mono ?_); rintro e w' ⟨rfl, ⟨nd, rfl⟩⟩; (try first | exact ⟨rfl, _, World.drewN_drewN _ _ _⟩ | exact ⟨rfl, _, Eq.trans (World.drewN_drewN _ _ _) (congrArg (World.drewN _) (Nat.add_assoc _ _ _))⟩)) | (go_at_call 92; (with_reducible refine (strings_ContainsRune.calls t108 13 t109 _ zG2 A11.out).mono ?_); rintro e w' ⟨rfl, ⟨nd, rfl⟩⟩; (try first | exact ⟨rfl, _, World.drewN_drewN _ _ _⟩ | exact ⟨rfl, _, Eq.trans (World.drewN_drewN _ _ _) (congrArg (World.drewN _) (Nat.add_assoc _ _ _))⟩))))
    go_ret3
    exact ⟨by first | rfl | (simp; done) | (simp only [← hji7] <;> (first | rfl | simp)) | (simp [*]; done), zD⟩
  ·exact zH H
mutual
def fold_cut.l0 : Nat → ByteArray → List (S95) → Int → Option ((List (S95)) × Int)
 | 0, _, _, _ => none
 | k + 1, x0, x4, x5 => if x0.toList = ([] : List UInt8) then (some (x4, 0)) else ((fold_piece.f x0).bind fun bt110 => (if bt110.2.2 = true then (if 0 < (bt110.1.size : Int) then ((fold_goesOn.f (bt bt110.1 0)).bind fun t113 => (fold_cut.j1 k x4 x5 bt110.1 bt110.2.1 bt110.2.2 t113)) else (none)) else (fold_cut.j1 k x4 x5 bt110.1 bt110.2.1 bt110.2.2 false)))
def fold_cut.j1 : Nat → List (S95) → Int → ByteArray → ByteArray → Bool → Bool → Option ((List (S95)) × Int)
 | 0, _, _, _, _, _, _ => none
 | k + 1, x4, x5, x6, x7, x8, x9 => if x8 = true then (if x9 = true then (fold_cut.j2 k x4 x5 x6 x7 x9 ((x4.length : Int) == 0)) else (fold_cut.j2 k x4 x5 x6 x7 x9 false)) else (fold_cut.j2 k x4 x5 x6 x7 x9 true)
def fold_cut.j2 : Nat → List (S95) → Int → ByteArray → ByteArray → Bool → Bool → Option ((List (S95)) × Int)
 | 0, _, _, _, _, _, _ => none
 | k + 1, x4, x5, x6, x7, x9, x35 => if x35 = true then (some (([] : List (S95)), x5)) else (if x9 = true then (if 0 ≤ (wrap64 ((x4.length : Int) - 1)) then (if (wrap64 ((x4.length : Int) - 1)) < (x4.length : Int) then (if 1 ≤ (x6.size : Int) then (if ((rd_T95 x4 (wrap64 ((x4.length : Int) - 1))).f0).size + (x6.extract 1 x6.size).size ≤ 9223372036854775807 then (fold_cut.l0 k x7 (x4.set ((wrap64 ((x4.length : Int) - 1)) : Int).toNat (⟨((rd_T95 x4 (wrap64 ((x4.length : Int) - 1))).f0) ++ (x6.extract 1 x6.size), (rd_T95 x4 (wrap64 ((x4.length : Int) - 1))).f1⟩ : S95)) (wrap64 (x5 + 1))) else (none)) else (none)) else (none)) else (none)) else (if x4.length < 5864062014805 then (fold_cut.l0 k x7 (x4 ++ [(⟨x6, x5⟩ : S95)]) (wrap64 (x5 + 1))) else (none)))
end
def fold_cut.f (k : Nat) (a0 : ByteArray) : Option ((List (S95)) × Int) := fold_cut.l0 k a0 ([] : List (S95)) 1
def fold_cut.T10 : Bool × List (List Nat × List Nat) := (true, [([], []), ([], []), ([1], [1]), ([2], [2]), ([0, 3], [0, 3]), ([4], [4]), ([5], [5]), ([], []), ([7], [7]), ([6, 8], [6, 8]), ([0, 3, 0, 1, 2, 3, 4, 5, 6, 7, 8, 9], [0, 3]), ([10, 0, 1, 2, 3, 4, 5, 6, 7, 8, 9], [10]), ([11, 9, 0, 1, 2, 3, 4, 5, 6, 7, 8, 9], [9, 11])])
def fold_cut.B10 : List Nat := [0, 0, 2, 6, 15, 31, 63, 0, 128, 511, 1023, 2047, 4095]
theorem fold_cut.tab10 : rtab .any (opsOf Tryz.f49 10) = fold_cut.T10 := by kernel_rfl
theorem fold_cut.bits10 : waitsOk fold_cut.T10.2 fold_cut.B10 = true := by kernel_rfl
set_option maxHeartbeats 8000000 in
set_option maxRecDepth 100000 in
theorem fold_cut.calls (k : Nat) (a0 : ByteArray) (r1 : List (S95)) (r2 : Int) (w : World) (hG : GG w) (h : fold_cut.f k a0 = some (r1, r2)) :
  Calls Tryz.prog 49 #[.string a0] w fun e w' => ∃ v0_ : Value, e = .returned (.tuple #[v0_, .int .i64 r2]) ∧ Kd.R k95 95 w' w.heap.size (fun _ => True) v0_ r1 ∧ Below w.heap.size w w' := by
 have hu95 := Tryz.underlying95; have HB := Aside0.mk (Below.refl w.heap.size w); have H : (fold_cut.l0 k a0 ([] : List (S95)) 1) = some (r1, r2) := h; clear h; have H' := Aside0.mk H; clear H
 go_enter Tryz.func49, Tryz.ntmps49
 go_wp2
 go_loopg [0, 4, 5] k (fun kq v0 v4 v5 w' => ∃ (x0_1 : ByteArray) (x4_1 : List (S95)) (x5_1 : Int), v0 = .string x0_1 ∧ v5 = .int .i64 x5_1 ∧ Aside0 (fold_cut.l0 kq x0_1 x4_1 x5_1 = some (r1, r2)) ∧ Aside0 (kq ≤ k) ∧ Aside0 (Kd.R k95 95 w' w.heap.size (fun _ => True) v4 x4_1) ∧ Aside0 (Below w.heap.size w w'))
 case atStart => exact ⟨(a0), (([] : List (S95))), (1), zS, zS, H', ⟨Nat.le_refl _⟩, ⟨by first | exact Kd.R_nil _ _ _ _ _ | exact Kd.N_nil _ _ _ _ _ | exact Kd.V_nil _ _ _ _ _ | exact Kd.Q_nil _ _ _ _ _ | exact Kd.S_nil _ _ _ _ _⟩, ⟨zB⟩⟩
 case round =>
  clear H'; obtain ⟨x0_1, x4_1, x5_1, rfl, rfl, HA, HK1, HO_4, HB⟩ := hrel
  cases gk with
  | zero => exact absurd HA.out (by simp [fold_cut.l0])
  | succ k1 =>
   have H := HA.out; clear HA; simp only [fold_cut.l0] at H; replace H := zIe H; rcases H with ⟨-, c2b0, c2b1, H⟩ | ⟨c2, c2b0, c2b1, H⟩
   ·simp only [Option.some.injEq, Prod.mk.injEq] at H; obtain ⟨rfl, rfl⟩ := H; go_wp2; go_ret2; exact ⟨_, zE, by (with_reducible repeat (first | apply Kd.R_alloc | apply Kd.R_drewN | apply Kd.R_drew)); exact HO_4.out, zB⟩
   ·replace H := Option.bind_eq_some_iff.mp H; obtain ⟨⟨t110, t111, t112⟩, A30, H⟩ := H; replace H : (if t112 = true then (if 0 < (t110.size : Int) then ((fold_goesOn.f (bt t110 0)).bind fun t113 => (fold_cut.j1 k1 x4_1 x5_1 t110 t111 t112 t113)) else (none)) else (fold_cut.j1 k1 x4_1 x5_1 t110 t111 t112 false)) = some (r1, r2) := H; have A3 := Aside0.mk A30; clear A30; have HC4 := Aside0.mk H; clear H
    go_upto_region 6 with (first | ((with_reducible refine gate_callee (f := 75) rfl ?_); refine zq 16 Tryz.func75 #[.string x0_1] (fold_piece.calls x0_1 t110 t111 t112 _ zG A3.out) (fun nd => ?_)))
    (try simp only [Act.put, List.setIfInBounds_toArray, List.set_cons_zero, List.set_cons_succ])
    go_cut [9] (fun v9 wc => ∃ (kq : Nat) (x9_3 : Bool), v9 = .bool x9_3 ∧ Aside0 (fold_cut.j1 kq x4_1 x5_1 t110 t111 t112 x9_3 = some (r1, r2)) ∧ Aside0 (kq ≤ k1) ∧ Aside0 (Kd.R k95 95 wc w.heap.size (fun _ => True) u4 x4_1) ∧ Aside0 (Below w.heap.size w wc))
    case first =>
     have H := HC4.out; clear HC4; replace H := zIb H; rcases H with ⟨rfl, H⟩ | ⟨rfl, H⟩
     ·replace H := zJd H; obtain ⟨c6, c6b0, H⟩ := H; have c6b1 : decide (0 < t110.size) = true := decide_eq_true (by omega); clear c6
      (first | rw [c6b0] | (simp only [i64_w, i32_w]; rw [c6b0]) | skip)
      replace H := zO H; obtain ⟨t113, A8, H⟩ := H; have H' := Aside0.mk H; clear H; have p7 : 0 ≤ (0 : Int) := (by omega); have q7 : 0 < t110.size := (by have : (0 : Int) < (t110.size : Int) := of_decide_eq_true (by first | (with_reducible assumption) | assumption); omega); have hx7 : ∀ h : 0 < t110.size, ((t110[0]'h).toNat : Int) = bt t110 0 := bt_at t110 0; clear p7; have qi7 : (0 < (t110.size : Int)) = True := eq_true (of_decide_eq_true (by first | (with_reducible assumption) | assumption)); replace q7 := eq_true q7
      go_wp2_with (first | (go_at_call 37; (with_reducible refine (fold_goesOn.calls (bt t110 0) t113 _ zG A8.out).mono ?_); rintro e w' ⟨rfl, ⟨nd, rfl⟩⟩))
      go_meet
      case rel => exact ⟨_, (t113), zS, H', ⟨by have := HK1.out; first | omega | exact Nat.le_refl _⟩, ⟨Kd.R_below HO_4.out zX⟩, ⟨zB⟩⟩
     ·have H' := Aside0.mk H; clear H; go_wp2
      go_meet
      case rel => exact ⟨_, (false), zS, H', ⟨by have := HK1.out; first | omega | exact Nat.le_refl _⟩, ⟨Kd.R_below HO_4.out zX⟩, ⟨zB⟩⟩
    case rest =>
     clear HC4; clear c2 c2b0 c2b1; obtain ⟨kq, x9_3, rfl, HA, HJ3, HO_4, HB⟩ := hcut
     cases kq with
     | zero => exact absurd HA.out (by simp [fold_cut.j1])
     | succ kj3 =>
      have H := HA.out; clear HA; simp only [fold_cut.j1] at H; have HC9 := Aside0.mk H; clear H
      go_upto_region 7 with (fail)
      go_cut [35] (fun v35 wc => ∃ (kq : Nat) (x35_8 : Bool), v35 = .bool x35_8 ∧ Aside0 (fold_cut.j2 kq x4_1 x5_1 t110 t111 x9_3 x35_8 = some (r1, r2)) ∧ Aside0 (kq ≤ kj3) ∧ Aside0 (Kd.R k95 95 wc w.heap.size (fun _ => True) u4 x4_1) ∧ Aside0 (Below w.heap.size w wc))
      case first =>
       have H := HC9.out; clear HC9; replace H := zIb H; rcases H with ⟨rfl, H⟩ | ⟨rfl, H⟩
       ·replace H := zIb H; rcases H with ⟨rfl, H⟩ | ⟨rfl, H⟩
        ·have H' := Aside0.mk H; clear H; obtain ⟨Ao12, co12, eo12⟩ := Kd.R_slice HO_4.out; subst eo12; go_wp2
         go_meet
         case rel => exact ⟨_, (((x4_1.length : Int) == 0)), zS, H', ⟨by have := HK1.out; have := HJ3.out; first | omega | exact Nat.le_refl _⟩, ⟨Kd.R_below HO_4.out zX⟩, ⟨zB⟩⟩
        ·have H' := Aside0.mk H; clear H; go_wp2
         go_meet
         case rel => exact ⟨_, (false), zS, H', ⟨by have := HK1.out; have := HJ3.out; first | omega | exact Nat.le_refl _⟩, ⟨Kd.R_below HO_4.out zX⟩, ⟨zB⟩⟩
       ·have H' := Aside0.mk H; clear H; go_wp2
        go_meet
        case rel => exact ⟨_, (true), zS, H', ⟨by have := HK1.out; have := HJ3.out; first | omega | exact Nat.le_refl _⟩, ⟨Kd.R_below HO_4.out zX⟩, ⟨zB⟩⟩
      case rest =>
       clear HC9; obtain ⟨kq, x35_8, rfl, HA, HJ8, HO_4, HB⟩ := hcut
       cases kq with
       | zero => exact absurd HA.out (by simp [fold_cut.j2])
       | succ kj8 =>
        have H := HA.out; clear HA; simp only [fold_cut.j2] at H; replace H := zIb H; rcases H with ⟨rfl, H⟩ | ⟨rfl, H⟩
        ·simp only [Option.some.injEq, Prod.mk.injEq] at H; obtain ⟨rfl, rfl⟩ := H; go_wp2; go_ret2; exact ⟨_, zE, by first | exact Kd.R_nil _ _ _ _ _ | exact Kd.N_nil _ _ _ _ _ | exact Kd.V_nil _ _ _ _ _ | exact Kd.Q_nil _ _ _ _ _ | exact Kd.S_nil _ _ _ _ _, zB⟩
        ·replace H := zIb H; rcases H with ⟨rfl, H⟩ | ⟨rfl, H⟩
         ·obtain ⟨ji15, hji15⟩ : ∃ j_ : Int, (wrap64 ((x4_1.length : Int) - 1)) = j_ := ⟨_, rfl⟩; replace H : (if 0 ≤ (ji15) then (if (ji15) < (x4_1.length : Int) then (if 1 ≤ (t110.size : Int) then (if ((rd_T95 x4_1 (ji15)).f0).size + (t110.extract 1 t110.size).size ≤ 9223372036854775807 then (fold_cut.l0 kj8 t111 (x4_1.set ((ji15) : Int).toNat (⟨((rd_T95 x4_1 (ji15)).f0) ++ (t110.extract 1 t110.size), (rd_T95 x4_1 (ji15)).f1⟩ : S95)) (wrap64 (x5_1 + 1))) else (none)) else (none)) else (none)) else (none)) = some (r1, r2) := by first | (rw [hji15] at H; exact H) | (simp only [hji15] at H ⊢; exact H)
          have hji15w : (IntKind.i64.wrap ((x4_1.length : Int) - 1)) = ji15 := (i64_w _).trans hji15; replace H := zJd H; obtain ⟨-, c16b0, H⟩ := H; replace H := zJd H; obtain ⟨-, c17b0, H⟩ := H; replace H := zJ H; obtain ⟨c18, H⟩ := H; have c18b0 := eq_true c18; have c18b1 : decide (1 ≤ (t110.size : Int)) = true := decide_eq_true c18; clear c18; replace H := zJ H; obtain ⟨c19, H⟩ := H; have c19b0 := eq_true c19; have c19b1 : decide (((rd_T95 x4_1 (ji15)).f0).size + (t110.extract 1 t110.size).size ≤ 9223372036854775807) = true := decide_eq_true c19
          try have c19b2 : (9223372036854775807 < ((rd_T95 x4_1 (ji15)).f0).size + (t110.extract 1 t110.size).size) = False := eq_false (Nat.not_lt.2 c19)
          have c19b3 : (9223372036854775807 < ((rd_T95 x4_1 (ji15)).f0).size + (t110.size - 1)) = False := by
           have h_ : (t110.extract 1 t110.size).size = t110.size - 1 := by rw [ByteArray.size_extract, Nat.min_self]
           rw [← h_]; exact eq_false (Nat.not_lt.2 c19)
          obtain ⟨y115, hy115⟩ : ∃ y_ : List (S95), y_ = (x4_1.set ((ji15) : Int).toNat (⟨((rd_T95 x4_1 (ji15)).f0) ++ (t110.extract 1 t110.size), (rd_T95 x4_1 (ji15)).f1⟩ : S95)) := ⟨_, rfl⟩; replace H : (fold_cut.l0 kj8 t111 y115 (wrap64 (x5_1 + 1))) = some (r1, r2) := by first | (rw [hy115]; with_reducible exact H) | (have H2_ := (Option.bind_some _ _).symm.trans H; rw [hy115]; with_reducible exact H2_) | (have H2_ := (Option.bind_some _ _).symm.trans H; with_reducible exact H2_) | with_reducible exact H | (rw [hy115]; exact H) | exact H
          have Ny115 := Aside0.mk hy115; clear hy115; have H' := Aside0.mk H; clear H
          try go_wp2
          replace HO_4 := Aside0.mk (Kd.R_drew HO_4.out); replace HB := Aside0.mk (below_drew1 HB.out); obtain ⟨Ao22, co22, eo22⟩ := Kd.R_slice HO_4.out
          (first | subst eo22 | (injection eo22 with f1_ f2_ f3_; have f4_ := f1_.symm; have f5_ := f3_.symm; clear f1_ f2_ f3_; subst f4_; subst f5_))
          have p114 := zQ (0 ≤ ((ji15) : Int)); have q114 := zQ ((ji15) < (x4_1.length : Int)); obtain ⟨ad114, e114, hx114_0, hx114_1⟩ := at_T95 (Kd.R_reads' HO_4.out).2.2 (ji15) p114 q114
          cases e114
          replace p114 := eq_true p114; replace q114 := eq_true q114; have p20 := zQ (0 ≤ ((ji15) : Int)); have q20 := zQ (((ji15) : Int) < ((x4_1.length : Int) : Int)); obtain ⟨go20, co20, eo20, gb20, gl20, cl20, HG20⟩ := Kd.R_form HO_4.out (by omega)
          (first | cases eo20 | (injection eo20 with ea_ en_ ec_; (first | subst ea_ | (injection ea_ with ea_; subst ea_)); subst ec_; clear en_))
          have GB20 := Aside0.mk gb20; have GG20 := Aside0.mk HG20; clear gb20 gl20 HG20
          (first | simp only [add_plain] at hx114_0 | skip)
          (first | simp only [add_plain] at hx114_1 | skip)
          obtain ⟨ce20, hcl20, hM20, hcc20, hfr20⟩ := Kd.R_elem HO_4.out z95 ((ji15) : Int) p20 q20; obtain rfl := k95_openM hM20; have hx20_0 : World.cell? _ ⟨go20, ((ji15) : Int).toNat * 2, none⟩ = some (.string ((rd_T95 x4_1 (ji15)).f0)) := hcc20 0 _ rfl; have hx20_1 : World.cell? _ ⟨go20, ((ji15) : Int).toNat * 2 + 1, none⟩ = some (.int .i64 ((rd_T95 x4_1 (ji15)).f1)) := hcc20 1 _ rfl; have hf20_0 : World.frozen? _ ⟨go20, ((ji15) : Int).toNat * 2, none⟩ = false := hfr20 0; have hf20_1 : World.frozen? _ ⟨go20, ((ji15) : Int).toNat * 2 + 1, none⟩ = false := hfr20 1; clear hcl20 hcc20 hfr20 hM20; replace p20 := eq_true p20; replace q20 := eq_true q20
          obtain ⟨ce23, hcl23, hM23, hcc23, hfr23⟩ := Kd.R_elem HO_4.out z95 ((ji15) : Int) (of_decide_eq_true (by first | (with_reducible assumption) | assumption)) (by have h_ : ((ji15) : Int) < ((x4_1.length : Int) : Int) := of_decide_eq_true (by first | (with_reducible assumption) | assumption); first | exact h_ | (have e_ := (Kd.R_reads' HO_4.out).1; omega) | simpa using h_); obtain rfl := k95_openM hM23
          have HP23 := (Kd.R_seg HO_4.out ((ji15) : Int) (of_decide_eq_true (by first | (with_reducible assumption) | assumption)) (by have h_ : ((ji15) : Int) < ((x4_1.length : Int) : Int) := of_decide_eq_true (by first | (with_reducible assumption) | assumption); first | exact h_ | (have e_ := (Kd.R_reads' HO_4.out).1; omega) | simpa using h_) (seg := [.string (((rd_T95 x4_1 (ji15)).f0) ++ (t110.extract 1 t110.size))]) (j := 0) hcl23 hcc23 (show 1 ≤ 2 from by decide) (x' := (⟨((rd_T95 x4_1 (ji15)).f0) ++ (t110.extract 1 t110.size), (rd_T95 x4_1 (ji15)).f1⟩ : S95)) (k95_mkM _ _ _ (⟨((rd_T95 x4_1 (ji15)).f0) ++ (t110.extract 1 t110.size), (rd_T95 x4_1 (ji15)).f1⟩ : S95) ) (fun _ hk => hk)).1; rw [← Ny115.out] at HP23; have HQ23 := Aside0.mk HP23; clear hcl23 hcc23 hfr23 hM23 HP23
          refine start_ (n := 13) (S := fun w' => w'.cell? ⟨go20, ((ji15) : Int).toNat * 2, none⟩ = some (.string ((rd_T95 x4_1 (ji15)).f0)) ∧ w'.cell? ⟨go20, ((ji15) : Int).toNat * 2 + 1, none⟩ = some (.int .i64 ((rd_T95 x4_1 (ji15)).f1))) (ds := [12]) (bs 13 0) (by kernel_rfl) rfl rfl ⟨hx20_0, hx20_1⟩ (fun hHeld => ?_); refine with_tabW fold_cut.tab10 fold_cut.bits10 (fun HT_ HW_ => ?_); generalize wc.drew = w21 at HO_4 HB GG20 HQ23 hf20_0 hf20_1 hx114_0 hx114_1 hx20_0 hx20_1 hHeld ⊢; refine zp 0 38 (bs 13 1) ?_; refine zp 1 39 (bs 13 3) ?_; refine zp 2 40 (bs 13 7) ?_; refine zp 3 41 (bs 13 15) ?_; refine zp 4 42 (bs 13 31) ?_; refine zp 5 43 (bs 13 63) ?_; refine zp 7 45 (bs 13 191) ?_; refine zp 8 46 (bs 13 447) ?_; refine zt 6 44 (bs 13 511) ?_; refine zp 9 47 (bs 13 1023) ?_; refine zp 10 48 (bs 13 2047) ?_; refine zp 11 49 (bs 13 4095) ?_
          refine last_ (i := 12) (N := none) (bs 13 8191) rfl rfl (one_of HT_.out (by kernel_rfl)) (by decide) (fun K hK => ?_); refine skip_ (w1 := ?_) (by rfl) rfl ?_ ?_; rotate_left
          ·go_simp; rfl
          refine hK.out _ _ ?_; clear hK K; refine done_ (done_of HT_.out (by kernel_rfl)) ?_
          try go_wp2
          go_roundg kj8
          case measure => have := HK1.out; have := HJ3.out; have := HJ8.out; omega
          case rel => exact ⟨(t111), (y115), (wrap64 (x5_1 + 1)), zS, zS, H', ⟨by have := HK1.out; have := HJ3.out; have := HJ8.out; omega⟩, ⟨Kd.R_below HQ23.out zX⟩, ⟨by repeat (first | (with_reducible first | exact HB.out | apply below_alloc | apply pw_below_drewN | apply below_drew1 | refine below_set ?_ GB20.out) | exact HB.out)⟩⟩
         ·replace H := zI H; rcases H with ⟨c24, H⟩ | ⟨c24, H⟩
          ·have LMc24 := Aside0.mk c24; clear c24; obtain ⟨y116, hy116⟩ : ∃ y_ : List (S95), y_ = (x4_1 ++ [(⟨t110, x5_1⟩ : S95)]) := ⟨_, rfl⟩; replace H : (fold_cut.l0 kj8 t111 y116 (wrap64 (x5_1 + 1))) = some (r1, r2) := by first | (rw [hy116]; with_reducible exact H) | (have H2_ := (Option.bind_some _ _).symm.trans H; rw [hy116]; with_reducible exact H2_) | (have H2_ := (Option.bind_some _ _).symm.trans H; with_reducible exact H2_) | with_reducible exact H | (rw [hy116]; exact H) | exact H
           have Ny116 := Aside0.mk hy116; clear hy116; have H' := Aside0.mk H; clear H
           go_wp2_with (first | ((with_reducible refine gate_builtin (b := .append) (xs := #[.tmp 50, .tmp 54]) rfl ?_); (try (refine gate_guard (by rfl) ?_; dsimp only)); at_builtin; refine Kd.R_append k95 (w0 := w) w.heap.size rfl (.tmp 50) (.tmp 54) 91 95 (.agg #[(.string ⟨#[]⟩), (.int .i64 0)]) 24 rfl Tryz.underlying91 info95 rfl (by decide) (by omega) u4 x4_1 (⟨t110, x5_1⟩ : S95) [.string t110, .int .i64 x5_1] (fun _ => True) (fun _ => False) rfl rfl ?aP (fun _ hk => hk.elim) ?aF ?aO ?aB ?aS ?aL ?_; (case aP => exact k95_mkM _ _ _ (⟨t110, x5_1⟩ : S95)); (case aB => exact zB); (case aF => exact (fun _ _ => trivial)); (case aO => exact (Kd.R_below HO_4.out zX)); (case aS => exact (below_size zB)); (case aL => have := LMc24.out; omega); intro v117 w25 ho hb hg hat; rw [← Ny116.out] at ho; have n0_ := Aside0.mk (hb); have n1_ := Aside0.mk (ho); clear HB; clear HO_4; have HB := n0_; have HO118 := n1_; clear n0_ n1_; clear ho hb hg hat))
           go_roundg kj8
           case measure => have := HK1.out; have := HJ3.out; have := HJ8.out; omega
           case rel => exact ⟨(t111), (y116), (wrap64 (x5_1 + 1)), zS, zS, H', ⟨by have := HK1.out; have := HJ3.out; have := HJ8.out; omega⟩, ⟨Kd.R_below HO118.out zX⟩, ⟨zB⟩⟩
          ·exact zH H
end Go.Proofs.YtdojmdbaiddkgaaGreatDoor.Print
end
section
namespace Go.Proofs.YtdojmdbaiddkgaaGreatDoor.Print
open Go.RowKit Go.Proofs.YtdojmdbaiddkgaaGreatDoorW.PrintWords Go.Proofs.YtdojmdbaiddkgaaGreatDoorW.PrintLast
set_option linter.unusedVariables false
set_option linter.unusedSimpArgs false
def fold_Unfold.l0 : Nat → List ByteArray → List (S95) → Int → Int → Option (List ByteArray × Int × Int)
 | 0, _, _, _, _ => none
 | k + 1, x7, x21, x22, x23 => if x23 < x22 then (if 0 ≤ x23 then (if x23 < (x21.length : Int) then ((utf8_ValidString.f ((rd_T95 x21 x23).f0)).bind fun t125 => (if t125 = true then (if (((rd_T95 x21 x23).f0).size : Int) > 2000 then (some (([] : List ByteArray), (rd_T95 x21 x23).f1, 4)) else (if x7.length < 8796093022208 then (fold_Unfold.l0 k (x7 ++ [(rd_T95 x21 x23).f0]) x21 x22 (wrap64 (x23 + 1))) else (none))) else (some (([] : List ByteArray), (rd_T95 x21 x23).f1, 3)))) else (none)) else (none)) else (some (x7, 0, 0))
def fold_Unfold.f (k : Nat) (a0 : ByteArray) : Option (List ByteArray × Int × Int) := if (a0.size : Int) > 20000 then (some (([] : List ByteArray), 0, 4)) else ((fold_cut.f k a0).bind fun bt119 => (if bt119.2 > 0 then (some (([] : List ByteArray), bt119.2, 5)) else (fold_Unfold.l0 k ([] : List ByteArray) bt119.1 (bt119.1.length : Int) 0)))
set_option maxHeartbeats 8000000 in
set_option maxRecDepth 100000 in
theorem fold_Unfold.calls (k : Nat) (a0 : ByteArray) (r1 : List ByteArray) (r2 : Int) (r3 : Int) (w : World) (hG : GG w) (h : fold_Unfold.f k a0 = some (r1, r2, r3)) :
  Calls Tryz.prog 27 #[.string a0] w fun e w' => ∃ v0_ : Value, e = .returned (.tuple #[v0_, .int .i64 r2, .int .i64 r3]) ∧ Kd.R Kd.string 9 w' w.heap.size (fun _ => True) v0_ r1 ∧ Below w.heap.size w w' := by
 have hu95 := Tryz.underlying95; have HB := Aside0.mk (Below.refl w.heap.size w); have H : (if (a0.size : Int) > 20000 then (some (([] : List ByteArray), 0, 4)) else ((fold_cut.f k a0).bind fun bt119 => (if bt119.2 > 0 then (some (([] : List ByteArray), bt119.2, 5)) else (fold_Unfold.l0 k ([] : List ByteArray) bt119.1 (bt119.1.length : Int) 0)))) = some (r1, r2, r3) := h; clear h; replace H := zI H; rcases H with ⟨c2, H⟩ | ⟨c2, H⟩
 ·have c2b0 : decide (20000 < (a0.size : Int)) = true := decide_eq_true c2; have c2b1 : decide (20000 < a0.size) = true := decide_eq_true (by omega); clear c2; simp only [Option.some.injEq, Prod.mk.injEq] at H; obtain ⟨rfl, rfl, rfl⟩ := H
  go_enter Tryz.func27, Tryz.ntmps27
  go_wp2
  repeat (go_quiet (fail); try go_wp2)
  go_ret3
  exact ⟨_, zE, by first | exact Kd.R_nil _ _ _ _ _ | exact Kd.N_nil _ _ _ _ _ | exact Kd.V_nil _ _ _ _ _ | exact Kd.Q_nil _ _ _ _ _ | exact Kd.S_nil _ _ _ _ _, zB⟩
 ·have c2b0 : decide (20000 < (a0.size : Int)) = false := decide_eq_false c2; have c2b1 : decide (20000 < a0.size) = false := decide_eq_false (by omega); clear c2; replace H := Option.bind_eq_some_iff.mp H; obtain ⟨⟨t119, t120⟩, A30, H⟩ := H; replace H : (if t120 > 0 then (some (([] : List ByteArray), t120, 5)) else (fold_Unfold.l0 k ([] : List ByteArray) t119 (t119.length : Int) 0)) = some (r1, r2, r3) := H; have A3 := Aside0.mk A30; clear A30; replace H := zI H; rcases H with ⟨c4, H⟩ | ⟨c4, H⟩
  ·have c4b0 : decide (0 < t120) = true := decide_eq_true c4; clear c4; simp only [Option.some.injEq, Prod.mk.injEq] at H; obtain ⟨rfl, rfl, rfl⟩ := H
   go_enter Tryz.func27, Tryz.ntmps27
   iterate 5 (first | go_quiet (fail) | go_wp2_with (first | (go_at_call 49; (with_reducible refine (fold_cut.calls k a0 t119 t120 _ zG A3.out).mono ?_); rintro e w5 ⟨v121, rfl, ho0, hb⟩; replace HO122 := Aside0.mk (Kd.R_lower ho0 (below_size zB)); replace HB := zw hb; (try clear hb); (try clear ho0))))
   go_ret3
   exact ⟨_, zE, by first | exact Kd.R_nil _ _ _ _ _ | exact Kd.N_nil _ _ _ _ _ | exact Kd.V_nil _ _ _ _ _ | exact Kd.Q_nil _ _ _ _ _ | exact Kd.S_nil _ _ _ _ _, zB⟩
  ·have c4b0 : decide (0 < t120) = false := decide_eq_false c4; clear c4; have H' := Aside0.mk H; clear H
   go_enter Tryz.func27, Tryz.ntmps27
   iterate 5 (first | go_quiet (fail) | go_wp2_with (first | (go_at_call 49; (with_reducible refine (fold_cut.calls k a0 t119 t120 _ zG A3.out).mono ?_); rintro e w6 ⟨v121, rfl, ho0, hb⟩; replace HO122 := Aside0.mk (Kd.R_lower ho0 (below_size zB)); replace HB := zw hb; (try clear hb); (try clear ho0); obtain ⟨Ao7, co7, eo7⟩ := Kd.R_slice HO122.out; subst eo7)))
   go_loopg [7, 23] k (fun kq v7 v23 w' => ∃ (x7_1 : List ByteArray) (x23_1 : Int), v23 = .int .i64 x23_1 ∧ Aside0 (fold_Unfold.l0 kq x7_1 t119 (t119.length : Int) x23_1 = some (r1, r2, r3)) ∧ Aside0 (kq ≤ k) ∧ Aside0 (Kd.R Kd.string 9 w' w.heap.size (fun _ => True) v7 x7_1) ∧ Aside0 (Kd.R k95 95 w' w.heap.size (fun _ => True) (.slice Ao7 t119.length co7) t119) ∧ Aside0 (Below w.heap.size w w'))
   case atStart => exact ⟨(([] : List ByteArray)), (0), zS, H', ⟨Nat.le_refl _⟩, ⟨by first | exact Kd.R_nil _ _ _ _ _ | exact Kd.N_nil _ _ _ _ _ | exact Kd.V_nil _ _ _ _ _ | exact Kd.Q_nil _ _ _ _ _ | exact Kd.S_nil _ _ _ _ _⟩, ⟨Kd.R_below HO122.out zX⟩, ⟨zB⟩⟩
   case round =>
    clear H'; clear c2b0 c2b1 c4b0; obtain ⟨x7_1, x23_1, rfl, HA, HK1, HO_7, HO_21, HB⟩ := hrel
    cases gk with
    | zero => exact absurd HA.out (by simp [fold_Unfold.l0])
    | succ k1 =>
     have H := HA.out; clear HA; simp only [fold_Unfold.l0] at H; replace H := zId H; rcases H with ⟨-, c8b0, H⟩ | ⟨-, c8b0, H⟩
     ·replace H := zJd H; obtain ⟨-, c9b0, H⟩ := H; replace H := zJd H; obtain ⟨-, c10b0, H⟩ := H; replace H := zO H; obtain ⟨t125, A11, H⟩ := H; replace H := zIb H; rcases H with ⟨rfl, H⟩ | ⟨rfl, H⟩
      ·replace H := zI H; rcases H with ⟨c13, H⟩ | ⟨c13, H⟩
       ·have c13b0 : decide (2000 < (((rd_T95 t119 x23_1).f0).size : Int)) = true := decide_eq_true c13; have c13b1 : decide (2000 < ((rd_T95 t119 x23_1).f0).size) = true := decide_eq_true (by omega); clear c13; simp only [Option.some.injEq, Prod.mk.injEq] at H; obtain ⟨rfl, rfl, rfl⟩ := H; have p123 := zQ (0 ≤ (x23_1 : Int)); have q123 := zQ (x23_1 < (t119.length : Int)); obtain ⟨ad123, e123, hx123_0, hx123_1⟩ := at_T95 (Kd.R_reads' HO_21.out).2.2 x23_1 p123 q123
        cases e123
        replace p123 := eq_true p123; replace q123 := eq_true q123
        iterate 5 (first | go_quiet (fail) | go_wp2_with (first | ((with_reducible refine gate_dst (N := 9) rfl ?_); refine zbox (N := 9) #[.string (⟨#[]⟩ : ByteArray), .int .i64 0] 95 (fun gb124 hg w14 hbox hb => ?_); have n0_ := Aside0.mk (Kd.R_below (Kd.R_below HO_7.out zX) hb); have n1_ := Aside0.mk (Kd.R_below (Kd.R_elderB (Kd.R_below HO_21.out zX) gb124 (Nat.le_of_eq hg.symm)) hb); have n2_ := zw hb; have n3_ := Aside0.mk hbox; have n4_ := zg w hg; have n5_ := zg w hg; clear HO_7; clear HO_21; clear HB; have HO_7 := n0_; have HO_21 := n1_; have HB := n2_; have BK124 := n3_; have GW124 := n4_; have GE124 := n5_; clear n0_ n1_ n2_ n3_ n4_ n5_; clear hb hbox hg; have hcz15_0 := zc0 BK124; have hcz15_1 := zc1 BK124; have hfz15_0 := zf BK124 0; have hfz15_1 := zf BK124 1) | (go_at_call 50; (with_reducible refine (utf8_ValidString.calls ((rd_T95 t119 x23_1).f0) true _ zG A11.out).mono ?_); rintro e w16 ⟨rfl, hb⟩; replace HO_7 := Aside0.mk (Kd.R_below (by (with_reducible repeat (first | apply Kd.R_alloc | apply Kd.R_drewN | apply Kd.R_drew)); exact (Kd.R_mono (Kd.R_far (p := ⟨gb124, 1, none⟩) (Kd.R_far (p := ⟨gb124, 0, none⟩) (Kd.R_types HO_7.out BK124.out (by decide)) (fun _ hk => hk.2) (.string ((rd_T95 t119 x23_1).f0))) (fun _ hk => hk.2) (.int .i64 ((rd_T95 t119 x23_1).f1))) (fun _ h_ => h_.1))) hb); replace HO_21 := Aside0.mk (Kd.R_below (by (with_reducible repeat (first | apply Kd.R_alloc | apply Kd.R_drewN | apply Kd.R_drew)); exact (Kd.R_mono (Kd.R_far (p := ⟨gb124, 1, none⟩) (Kd.R_far (p := ⟨gb124, 0, none⟩) (Kd.R_mono HO_21.out (fun k_ hk => (⟨hk, hk.2⟩ : _ ∧ k_ ≠ gb124))) (fun _ hk => hk.2) (.string ((rd_T95 t119 x23_1).f0))) (fun _ hk => hk.2) (.int .i64 ((rd_T95 t119 x23_1).f1))) (fun _ h_ => h_.1))) hb); replace BK124 := Aside0.mk (blk_below (g := gb124) (o := .cells #[.string ((rd_T95 t119 x23_1).f0), .int .i64 ((rd_T95 t119 x23_1).f1)] 95 (0, 0)) (by (with_reducible repeat (first | refine blk_drewN ?_ _ | refine blk_drew ?_ | refine blk_alloc ?_ _)); refine blk_put (cs := #[.string ((rd_T95 t119 x23_1).f0), .int .i64 0]) ?_ 1 _ rfl; (with_reducible repeat (first | refine blk_drewN ?_ _ | refine blk_drew ?_ | refine blk_alloc ?_ _)); refine blk_put (cs := #[.string (⟨#[]⟩ : ByteArray), .int .i64 0]) ?_ 0 _ rfl; (with_reducible repeat (first | refine blk_drewN ?_ _ | refine blk_drew ?_ | refine blk_alloc ?_ _)); exact BK124.out) hb); replace HB := zw hb; (try clear hb); have hcz17_0 : w16.cell? ⟨gb124, 0, none⟩ = some (.string ((rd_T95 t119 x23_1).f0)) := (blk_cell BK124.out 0).trans rfl; have hcz17_1 : w16.cell? ⟨gb124, 1, none⟩ = some (.int .i64 ((rd_T95 t119 x23_1).f1)) := (blk_cell BK124.out 1).trans rfl; have hfz17_0 := zf BK124 0; have hfz17_1 := zf BK124 1)))
        go_ret3
        exact ⟨_, zE, by first | exact Kd.R_nil _ _ _ _ _ | exact Kd.N_nil _ _ _ _ _ | exact Kd.V_nil _ _ _ _ _ | exact Kd.Q_nil _ _ _ _ _ | exact Kd.S_nil _ _ _ _ _, zB⟩
       ·have c13b0 : decide (2000 < (((rd_T95 t119 x23_1).f0).size : Int)) = false := decide_eq_false c13; have c13b1 : decide (2000 < ((rd_T95 t119 x23_1).f0).size) = false := decide_eq_false (by omega); clear c13; replace H := zJ H; obtain ⟨c18, H⟩ := H; have LMc18 := Aside0.mk c18; clear c18; obtain ⟨y126, hy126⟩ : ∃ y_ : List ByteArray, y_ = (x7_1 ++ [(rd_T95 t119 x23_1).f0]) := ⟨_, rfl⟩; replace H : (fold_Unfold.l0 k1 y126 t119 (t119.length : Int) (wrap64 (x23_1 + 1))) = some (r1, r2, r3) := by first | (rw [hy126]; with_reducible exact H) | (have H2_ := (Option.bind_some _ _).symm.trans H; rw [hy126]; with_reducible exact H2_) | (have H2_ := (Option.bind_some _ _).symm.trans H; with_reducible exact H2_) | with_reducible exact H | (rw [hy126]; exact H) | exact H
        have Ny126 := Aside0.mk hy126; clear hy126; have H' := Aside0.mk H; clear H; have p123 := zQ (0 ≤ (x23_1 : Int)); have q123 := zQ (x23_1 < (t119.length : Int)); obtain ⟨ad123, e123, hx123_0, hx123_1⟩ := at_T95 (Kd.R_reads' HO_21.out).2.2 x23_1 p123 q123
        cases e123
        replace p123 := eq_true p123; replace q123 := eq_true q123
        iterate 5 (first | go_quiet (fail) | go_wp2_with (first | ((with_reducible refine gate_dst (N := 9) rfl ?_); refine zbox (N := 9) #[.string (⟨#[]⟩ : ByteArray), .int .i64 0] 95 (fun gb124 hg w19 hbox hb => ?_); have n0_ := Aside0.mk (Kd.R_below (Kd.R_below HO_7.out zX) hb); have n1_ := Aside0.mk (Kd.R_below (Kd.R_elderB (Kd.R_below HO_21.out zX) gb124 (Nat.le_of_eq hg.symm)) hb); have n2_ := zw hb; have n3_ := Aside0.mk hbox; have n4_ := zg w hg; have n5_ := zg w hg; clear HO_7; clear HO_21; clear HB; have HO_7 := n0_; have HO_21 := n1_; have HB := n2_; have BK124 := n3_; have GW124 := n4_; have GE124 := n5_; clear n0_ n1_ n2_ n3_ n4_ n5_; clear hb hbox hg; have hcz20_0 := zc0 BK124; have hcz20_1 := zc1 BK124; have hfz20_0 := zf BK124 0; have hfz20_1 := zf BK124 1) | (go_at_call 50; (with_reducible refine (utf8_ValidString.calls ((rd_T95 t119 x23_1).f0) true _ zG A11.out).mono ?_); rintro e w21 ⟨rfl, hb⟩; replace HO_7 := Aside0.mk (Kd.R_below (by (with_reducible repeat (first | apply Kd.R_alloc | apply Kd.R_drewN | apply Kd.R_drew)); exact (Kd.R_mono (Kd.R_far (p := ⟨gb124, 1, none⟩) (Kd.R_far (p := ⟨gb124, 0, none⟩) (Kd.R_types HO_7.out BK124.out (by decide)) (fun _ hk => hk.2) (.string ((rd_T95 t119 x23_1).f0))) (fun _ hk => hk.2) (.int .i64 ((rd_T95 t119 x23_1).f1))) (fun _ h_ => h_.1))) hb); replace HO_21 := Aside0.mk (Kd.R_below (by (with_reducible repeat (first | apply Kd.R_alloc | apply Kd.R_drewN | apply Kd.R_drew)); exact (Kd.R_mono (Kd.R_far (p := ⟨gb124, 1, none⟩) (Kd.R_far (p := ⟨gb124, 0, none⟩) (Kd.R_mono HO_21.out (fun k_ hk => (⟨hk, hk.2⟩ : _ ∧ k_ ≠ gb124))) (fun _ hk => hk.2) (.string ((rd_T95 t119 x23_1).f0))) (fun _ hk => hk.2) (.int .i64 ((rd_T95 t119 x23_1).f1))) (fun _ h_ => h_.1))) hb); replace BK124 := Aside0.mk (blk_below (g := gb124) (o := .cells #[.string ((rd_T95 t119 x23_1).f0), .int .i64 ((rd_T95 t119 x23_1).f1)] 95 (0, 0)) (by (with_reducible repeat (first | refine blk_drewN ?_ _ | refine blk_drew ?_ | refine blk_alloc ?_ _)); refine blk_put (cs := #[.string ((rd_T95 t119 x23_1).f0), .int .i64 0]) ?_ 1 _ rfl; (with_reducible repeat (first | refine blk_drewN ?_ _ | refine blk_drew ?_ | refine blk_alloc ?_ _)); refine blk_put (cs := #[.string (⟨#[]⟩ : ByteArray), .int .i64 0]) ?_ 0 _ rfl; (with_reducible repeat (first | refine blk_drewN ?_ _ | refine blk_drew ?_ | refine blk_alloc ?_ _)); exact BK124.out) hb); replace HB := zw hb; (try clear hb); have hcz22_0 : w21.cell? ⟨gb124, 0, none⟩ = some (.string ((rd_T95 t119 x23_1).f0)) := (blk_cell BK124.out 0).trans rfl; have hcz22_1 : w21.cell? ⟨gb124, 1, none⟩ = some (.int .i64 ((rd_T95 t119 x23_1).f1)) := (blk_cell BK124.out 1).trans rfl; have hfz22_0 := zf BK124 0; have hfz22_1 := zf BK124 1) | ((with_reducible refine gate_builtin (b := .append) (xs := #[.tmp 41, .tmp 44]) rfl ?_); at_builtin; refine Kd.R_append Kd.string (w0 := w) w.heap.size rfl (.tmp 41) (.tmp 44) 54 9 (.string ⟨#[]⟩) 16 rfl Tryz.underlying54 info9 rfl (by decide) (by omega) u7 x7_1 ((rd_T95 t119 x23_1).f0) [.string ((rd_T95 t119 x23_1).f0)] (fun _ => True) (fun _ => False) rfl rfl ?aP (fun _ hk => hk.elim) ?aF ?aO ?aB ?aS ?aL ?_; (case aP => exact rfl); (case aB => exact zB); (case aF => exact (fun _ _ => trivial)); (case aO => exact (Kd.R_below HO_7.out zX)); (case aS => exact (below_size zB)); (case aL => have := LMc18.out; omega); intro v127 w23 ho hb hg hat; rw [← Ny126.out] at ho; have n0_ := Aside0.mk (Kd.R_over' (Kd.R_below HO_21.out zX) (Kd.R_typed (Kd.R_below HO_7.out zX)) (by decide) hg); have n1_ := Aside0.mk (blk_grown (g := gb124) (o := .cells #[.string ((rd_T95 t119 x23_1).f0), .int .i64 ((rd_T95 t119 x23_1).f1)] 95 (0, 0)) (blk_below BK124.out zX) hg (Kd.R_ne HO_7.out BK124.out (by decide))); have n2_ := Aside0.mk (hb); have n3_ := Aside0.mk (ho); clear HO_21; clear BK124; clear HB; clear HO_7; have HO_21 := n0_; have BK124 := n1_; have HB := n2_; have HO128 := n3_; clear n0_ n1_ n2_ n3_; clear ho hb hg hat)))
        go_roundg k1
        case measure => have := HK1.out; omega
        case rel => exact ⟨(y126), (wrap64 (x23_1 + 1)), zS, H', ⟨by have := HK1.out; omega⟩, ⟨Kd.R_below HO128.out zX⟩, ⟨by (with_reducible repeat (first | apply Kd.R_alloc | apply Kd.R_drewN | apply Kd.R_drew)); exact Kd.R_mono HO_21.out (fun _ hk => trivial)⟩, ⟨zB⟩⟩
      ·simp only [Option.some.injEq, Prod.mk.injEq] at H; obtain ⟨rfl, rfl, rfl⟩ := H; have p123 := zQ (0 ≤ (x23_1 : Int)); have q123 := zQ (x23_1 < (t119.length : Int)); obtain ⟨ad123, e123, hx123_0, hx123_1⟩ := at_T95 (Kd.R_reads' HO_21.out).2.2 x23_1 p123 q123
       cases e123
       replace p123 := eq_true p123; replace q123 := eq_true q123
       iterate 5 (first | go_quiet (fail) | go_wp2_with (first | ((with_reducible refine gate_dst (N := 9) rfl ?_); refine zbox (N := 9) #[.string (⟨#[]⟩ : ByteArray), .int .i64 0] 95 (fun gb124 hg w24 hbox hb => ?_); have n0_ := Aside0.mk (Kd.R_below (Kd.R_below HO_7.out zX) hb); have n1_ := Aside0.mk (Kd.R_below (Kd.R_elderB (Kd.R_below HO_21.out zX) gb124 (Nat.le_of_eq hg.symm)) hb); have n2_ := zw hb; have n3_ := Aside0.mk hbox; have n4_ := zg w hg; have n5_ := zg w hg; clear HO_7; clear HO_21; clear HB; have HO_7 := n0_; have HO_21 := n1_; have HB := n2_; have BK124 := n3_; have GW124 := n4_; have GE124 := n5_; clear n0_ n1_ n2_ n3_ n4_ n5_; clear hb hbox hg; have hcz25_0 := zc0 BK124; have hcz25_1 := zc1 BK124; have hfz25_0 := zf BK124 0; have hfz25_1 := zf BK124 1) | (go_at_call 50; (with_reducible refine (utf8_ValidString.calls ((rd_T95 t119 x23_1).f0) false _ zG A11.out).mono ?_); rintro e w26 ⟨rfl, hb⟩; replace HO_7 := Aside0.mk (Kd.R_below (by (with_reducible repeat (first | apply Kd.R_alloc | apply Kd.R_drewN | apply Kd.R_drew)); exact (Kd.R_mono (Kd.R_far (p := ⟨gb124, 1, none⟩) (Kd.R_far (p := ⟨gb124, 0, none⟩) (Kd.R_types HO_7.out BK124.out (by decide)) (fun _ hk => hk.2) (.string ((rd_T95 t119 x23_1).f0))) (fun _ hk => hk.2) (.int .i64 ((rd_T95 t119 x23_1).f1))) (fun _ h_ => h_.1))) hb); replace HO_21 := Aside0.mk (Kd.R_below (by (with_reducible repeat (first | apply Kd.R_alloc | apply Kd.R_drewN | apply Kd.R_drew)); exact (Kd.R_mono (Kd.R_far (p := ⟨gb124, 1, none⟩) (Kd.R_far (p := ⟨gb124, 0, none⟩) (Kd.R_mono HO_21.out (fun k_ hk => (⟨hk, hk.2⟩ : _ ∧ k_ ≠ gb124))) (fun _ hk => hk.2) (.string ((rd_T95 t119 x23_1).f0))) (fun _ hk => hk.2) (.int .i64 ((rd_T95 t119 x23_1).f1))) (fun _ h_ => h_.1))) hb); replace BK124 := Aside0.mk (blk_below (g := gb124) (o := .cells #[.string ((rd_T95 t119 x23_1).f0), .int .i64 ((rd_T95 t119 x23_1).f1)] 95 (0, 0)) (by (with_reducible repeat (first | refine blk_drewN ?_ _ | refine blk_drew ?_ | refine blk_alloc ?_ _)); refine blk_put (cs := #[.string ((rd_T95 t119 x23_1).f0), .int .i64 0]) ?_ 1 _ rfl; (with_reducible repeat (first | refine blk_drewN ?_ _ | refine blk_drew ?_ | refine blk_alloc ?_ _)); refine blk_put (cs := #[.string (⟨#[]⟩ : ByteArray), .int .i64 0]) ?_ 0 _ rfl; (with_reducible repeat (first | refine blk_drewN ?_ _ | refine blk_drew ?_ | refine blk_alloc ?_ _)); exact BK124.out) hb); replace HB := zw hb; (try clear hb); have hcz27_0 : w26.cell? ⟨gb124, 0, none⟩ = some (.string ((rd_T95 t119 x23_1).f0)) := (blk_cell BK124.out 0).trans rfl; have hcz27_1 : w26.cell? ⟨gb124, 1, none⟩ = some (.int .i64 ((rd_T95 t119 x23_1).f1)) := (blk_cell BK124.out 1).trans rfl; have hfz27_0 := zf BK124 0; have hfz27_1 := zf BK124 1)))
       go_ret3
       exact ⟨_, zE, by first | exact Kd.R_nil _ _ _ _ _ | exact Kd.N_nil _ _ _ _ _ | exact Kd.V_nil _ _ _ _ _ | exact Kd.Q_nil _ _ _ _ _ | exact Kd.S_nil _ _ _ _ _, zB⟩
     ·simp only [Option.some.injEq, Prod.mk.injEq] at H; obtain ⟨rfl, rfl, rfl⟩ := H; go_wp2
      repeat (go_quiet (fail); try go_wp2)
      go_ret3
      exact ⟨_, zE, by (with_reducible repeat (first | apply Kd.R_alloc | apply Kd.R_drewN | apply Kd.R_drew)); exact HO_7.out, zB⟩
def line_sign.f (a0 : Int) (a1 : Bool) : Option (Bool) := if a0 ≥ 65 then (if a0 ≤ 90 then (some true) else (if a0 ≥ 48 then (if a0 ≤ 57 then (some true) else (if a0 = 45 then (some true) else (if a1 = true then (some false) else (if a0 ≥ 97 then (some (decide (a0 ≤ 122))) else (some false))))) else (if a0 = 45 then (some true) else (if a1 = true then (some false) else (if a0 ≥ 97 then (some (decide (a0 ≤ 122))) else (some false)))))) else (if a0 ≥ 48 then (if a0 ≤ 57 then (some true) else (if a0 = 45 then (some true) else (if a1 = true then (some false) else (if a0 ≥ 97 then (some (decide (a0 ≤ 122))) else (some false))))) else (if a0 = 45 then (some true) else (if a1 = true then (some false) else (if a0 ≥ 97 then (some (decide (a0 ≤ 122))) else (some false)))))
set_option maxHeartbeats 8000000 in
set_option maxRecDepth 100000 in
theorem line_sign.calls (a0 : Int) (a1 : Bool) (r : Bool) (w : World) (hG : GG w) (h : line_sign.f a0 a1 = some r) :
  Calls Tryz.prog 70 #[.int .u8 a0, .bool a1] w fun e w' => e = .returned (.bool r) ∧ Drawn0 w w' := by
 have H : (if a0 ≥ 65 then (if a0 ≤ 90 then (some true) else (if a0 ≥ 48 then (if a0 ≤ 57 then (some true) else (if a0 = 45 then (some true) else (if a1 = true then (some false) else (if a0 ≥ 97 then (some (decide (a0 ≤ 122))) else (some false))))) else (if a0 = 45 then (some true) else (if a1 = true then (some false) else (if a0 ≥ 97 then (some (decide (a0 ≤ 122))) else (some false)))))) else (if a0 ≥ 48 then (if a0 ≤ 57 then (some true) else (if a0 = 45 then (some true) else (if a1 = true then (some false) else (if a0 ≥ 97 then (some (decide (a0 ≤ 122))) else (some false))))) else (if a0 = 45 then (some true) else (if a1 = true then (some false) else (if a0 ≥ 97 then (some (decide (a0 ≤ 122))) else (some false)))))) = some r := h; clear h; replace H := zI H; rcases H with ⟨c3, H⟩ | ⟨c3, H⟩
 ·have c3b0 : decide (65 ≤ a0) = true := decide_eq_true c3; clear c3; replace H := zId H; rcases H with ⟨-, c4b0, H⟩ | ⟨-, c4b0, H⟩
  ·obtain rfl := Option.some.inj H
   go_enter Tryz.func70, Tryz.ntmps70
   go_wp2; go_ret
   exact ⟨zS, zD⟩
  ·replace H := zI H; rcases H with ⟨c5, H⟩ | ⟨c5, H⟩
   ·have c5b0 : decide (48 ≤ a0) = true := decide_eq_true c5; clear c5; replace H := zId H; rcases H with ⟨-, c6b0, H⟩ | ⟨-, c6b0, H⟩
    ·obtain rfl := Option.some.inj H
     go_enter Tryz.func70, Tryz.ntmps70
     go_wp2; go_ret
     exact ⟨zS, zD⟩
    ·replace H := zIe H; rcases H with ⟨-, c7b0, c7b1, H⟩ | ⟨c7, c7b0, c7b1, H⟩
     ·obtain rfl := Option.some.inj H
      go_enter Tryz.func70, Tryz.ntmps70
      go_wp2; go_ret
      exact ⟨zS, zD⟩
     ·replace H := zIb H; rcases H with ⟨rfl, H⟩ | ⟨rfl, H⟩
      ·obtain rfl := Option.some.inj H
       go_enter Tryz.func70, Tryz.ntmps70
       go_wp2; go_ret
       exact ⟨zS, zD⟩
      ·replace H := zI H; rcases H with ⟨c9, H⟩ | ⟨c9, H⟩
       ·have c9b0 : decide (97 ≤ a0) = true := decide_eq_true c9; clear c9; obtain rfl := Option.some.inj H
        go_enter Tryz.func70, Tryz.ntmps70
        go_wp2; go_ret
        exact ⟨zS, zD⟩
       ·have c9b0 : decide (97 ≤ a0) = false := decide_eq_false c9; clear c9; obtain rfl := Option.some.inj H
        go_enter Tryz.func70, Tryz.ntmps70
        go_wp2; go_ret
        exact ⟨zS, zD⟩
   ·have c5b0 : decide (48 ≤ a0) = false := decide_eq_false c5; clear c5; replace H := zIe H; rcases H with ⟨-, c10b0, c10b1, H⟩ | ⟨c10, c10b0, c10b1, H⟩
    ·obtain rfl := Option.some.inj H
     go_enter Tryz.func70, Tryz.ntmps70
     go_wp2; go_ret
     exact ⟨zS, zD⟩
    ·replace H := zIb H; rcases H with ⟨rfl, H⟩ | ⟨rfl, H⟩
     ·obtain rfl := Option.some.inj H
      go_enter Tryz.func70, Tryz.ntmps70
      go_wp2; go_ret
      exact ⟨zS, zD⟩
     ·replace H := zI H; rcases H with ⟨c12, H⟩ | ⟨c12, H⟩
      ·have c12b0 : decide (97 ≤ a0) = true := decide_eq_true c12; clear c12; obtain rfl := Option.some.inj H
       go_enter Tryz.func70, Tryz.ntmps70
       go_wp2; go_ret
       exact ⟨zS, zD⟩
      ·have c12b0 : decide (97 ≤ a0) = false := decide_eq_false c12; clear c12; obtain rfl := Option.some.inj H
       go_enter Tryz.func70, Tryz.ntmps70
       go_wp2; go_ret
       exact ⟨zS, zD⟩
 ·have c3b0 : decide (65 ≤ a0) = false := decide_eq_false c3; clear c3; replace H := zI H; rcases H with ⟨c13, H⟩ | ⟨c13, H⟩
  ·have c13b0 : decide (48 ≤ a0) = true := decide_eq_true c13; clear c13; replace H := zId H; rcases H with ⟨-, c14b0, H⟩ | ⟨-, c14b0, H⟩
   ·obtain rfl := Option.some.inj H
    go_enter Tryz.func70, Tryz.ntmps70
    go_wp2; go_ret
    exact ⟨zS, zD⟩
   ·replace H := zIe H; rcases H with ⟨-, c15b0, c15b1, H⟩ | ⟨c15, c15b0, c15b1, H⟩
    ·obtain rfl := Option.some.inj H
     go_enter Tryz.func70, Tryz.ntmps70
     go_wp2; go_ret
     exact ⟨zS, zD⟩
    ·replace H := zIb H; rcases H with ⟨rfl, H⟩ | ⟨rfl, H⟩
     ·obtain rfl := Option.some.inj H
      go_enter Tryz.func70, Tryz.ntmps70
      go_wp2; go_ret
      exact ⟨zS, zD⟩
     ·replace H := zI H; rcases H with ⟨c17, H⟩ | ⟨c17, H⟩
      ·have c17b0 : decide (97 ≤ a0) = true := decide_eq_true c17; clear c17; obtain rfl := Option.some.inj H
       go_enter Tryz.func70, Tryz.ntmps70
       go_wp2; go_ret
       exact ⟨zS, zD⟩
      ·have c17b0 : decide (97 ≤ a0) = false := decide_eq_false c17; clear c17; obtain rfl := Option.some.inj H
       go_enter Tryz.func70, Tryz.ntmps70
       go_wp2; go_ret
       exact ⟨zS, zD⟩
  ·have c13b0 : decide (48 ≤ a0) = false := decide_eq_false c13; clear c13; replace H := zIe H; rcases H with ⟨-, c18b0, c18b1, H⟩ | ⟨c18, c18b0, c18b1, H⟩
   ·obtain rfl := Option.some.inj H
    go_enter Tryz.func70, Tryz.ntmps70
    go_wp2; go_ret
    exact ⟨zS, zD⟩
   ·replace H := zIb H; rcases H with ⟨rfl, H⟩ | ⟨rfl, H⟩
    ·obtain rfl := Option.some.inj H
     go_enter Tryz.func70, Tryz.ntmps70
     go_wp2; go_ret
     exact ⟨zS, zD⟩
    ·replace H := zI H; rcases H with ⟨c20, H⟩ | ⟨c20, H⟩
     ·have c20b0 : decide (97 ≤ a0) = true := decide_eq_true c20; clear c20; obtain rfl := Option.some.inj H
      go_enter Tryz.func70, Tryz.ntmps70
      go_wp2; go_ret
      exact ⟨zS, zD⟩
     ·have c20b0 : decide (97 ≤ a0) = false := decide_eq_false c20; clear c20; obtain rfl := Option.some.inj H
      go_enter Tryz.func70, Tryz.ntmps70
      go_wp2; go_ret
      exact ⟨zS, zD⟩
def line_Name.l0 : Nat → ByteArray → Int → Int → Option (Bool)
 | 0, _, _, _ => none
 | k + 1, x0, x5, x6 => if x6 < x5 then (if 0 ≤ x6 then (if x6 < (x0.size : Int) then ((line_sign.f (bt x0 x6) true).bind fun t129 => (if t129 = true then (line_Name.l0 k x0 x5 (wrap64 (x6 + 1))) else (some false))) else (none)) else (none)) else (if (x0.size : Int) ≥ 1 then (some (decide ((x0.size : Int) ≤ 60))) else (some false))
def line_Name.f (k : Nat) (a0 : ByteArray) : Option (Bool) := line_Name.l0 k a0 (a0.size : Int) 0
set_option maxHeartbeats 8000000 in
set_option maxRecDepth 100000 in
theorem line_Name.calls (k : Nat) (a0 : ByteArray) (r : Bool) (w : World) (hG : GG w) (h : line_Name.f k a0 = some r) :
  Calls Tryz.prog 44 #[.string a0] w fun e w' => e = .returned (.bool r) ∧ Drawn0 w w' := by
 have H : (line_Name.l0 k a0 (a0.size : Int) 0) = some r := h; clear h; have H' := Aside0.mk H; clear H
 go_enter Tryz.func44, Tryz.ntmps44
 go_wp2
 go_loopg [6] k (fun kq v6 w' => ∃ (x6_1 : Int), v6 = .int .i64 x6_1 ∧ Aside0 (line_Name.l0 kq a0 (a0.size : Int) x6_1 = some r) ∧ Aside0 (kq ≤ k) ∧ Drawn0 w w')
 case atStart => exact ⟨(0), zS, H', ⟨Nat.le_refl _⟩, zD⟩
 case round =>
  clear H'; obtain ⟨x6_1, rfl, HA, HK1, ⟨m1, rfl⟩⟩ := hrel
  cases gk with
  | zero => exact absurd HA.out (by simp [line_Name.l0])
  | succ k1 =>
   have H := HA.out; clear HA; simp only [line_Name.l0] at H; replace H := zId H; rcases H with ⟨-, c2b0, H⟩ | ⟨-, c2b0, H⟩
   ·replace H := zJd H; obtain ⟨-, c3b0, H⟩ := H; replace H := zJd H; obtain ⟨-, c4b0, H⟩ := H; replace H := zO H; obtain ⟨t129, A6, H⟩ := H; replace H := zIb H; rcases H with ⟨rfl, H⟩ | ⟨rfl, H⟩
    ·have H' := Aside0.mk H; clear H; have p5 := zP (0 ≤ (x6_1 : Int)); have q5 := zP (x6_1 < (a0.size : Int)); have hx5 := bt_at a0 x6_1
     go_wp2_with (first | ((with_reducible refine gate_callee (f := 70) rfl ?_); refine zq 12 Tryz.func70 #[.int .u8 (bt a0 x6_1), .bool true] (line_sign.calls (bt a0 x6_1) true true _ zG2 A6.out) (fun nd => ?_)))
     go_roundg k1
     case measure => have := HK1.out; omega
     case rel => exact ⟨(wrap64 (x6_1 + 1)), zS, H', ⟨by have := HK1.out; omega⟩, zD⟩
    ·obtain rfl := Option.some.inj H; have p5 := zP (0 ≤ (x6_1 : Int)); have q5 := zP (x6_1 < (a0.size : Int)); have hx5 := bt_at a0 x6_1
     go_wp2_with (first | ((with_reducible refine gate_callee (f := 70) rfl ?_); refine zq 12 Tryz.func70 #[.int .u8 (bt a0 x6_1), .bool true] (line_sign.calls (bt a0 x6_1) true false _ zG2 A6.out) (fun nd => ?_)))
     go_ret; exact ⟨zS, zD⟩
   ·replace H := zI H; rcases H with ⟨c8, H⟩ | ⟨c8, H⟩
    ·have c8b0 : decide (1 ≤ (a0.size : Int)) = true := decide_eq_true c8; have c8b1 : decide (1 ≤ a0.size) = true := decide_eq_true (by omega); clear c8; obtain rfl := Option.some.inj H; go_wp2; go_ret; exact ⟨zS, zD⟩
    ·have c8b0 : decide (1 ≤ (a0.size : Int)) = false := decide_eq_false c8; have c8b1 : decide (1 ≤ a0.size) = false := decide_eq_false (by omega); clear c8; obtain rfl := Option.some.inj H; go_wp2; go_ret; exact ⟨zS, zD⟩
def tree_bound.f (a0 : ByteArray) : Option (Bool) := if a0.toList = ([66, 69, 71, 73, 78] : List UInt8) then (some true) else (some (a0.toList == ([69, 78, 68] : List UInt8)))
set_option maxHeartbeats 8000000 in
set_option maxRecDepth 100000 in
theorem tree_bound.calls (a0 : ByteArray) (r : Bool) (w : World) (hG : GG w) (h : tree_bound.f a0 = some r) :
  Calls Tryz.prog 46 #[.string a0] w fun e w' => e = .returned (.bool r) ∧ Drawn0 w w' := by
 have H : (if a0.toList = ([66, 69, 71, 73, 78] : List UInt8) then (some true) else (some (a0.toList == ([69, 78, 68] : List UInt8)))) = some r := h; clear h; replace H := zIe H; rcases H with ⟨-, c2b0, c2b1, H⟩ | ⟨c2, c2b0, c2b1, H⟩
 ·obtain rfl := Option.some.inj H
  go_enter Tryz.func46, Tryz.ntmps46
  go_wp2; go_ret
  exact ⟨zS, zD⟩
 ·obtain rfl := Option.some.inj H
  go_enter Tryz.func46, Tryz.ntmps46
  go_wp2; go_ret
  exact ⟨zS, zD⟩
/-- A state of type 98 at block g of W; what its slices lead to came in by w0. -/
def IsS98 (w0 W : World) (g : Nat) (f0 : ByteArray) (f1 : Int) (f2 : Int) : Prop := W.heap[g]? = some (.cells #[.string f0, .int .i64 f1, .int .i64 f2] 98 (0, 0)) ∧ w0.heap.size ≤ g
theorem IsS98.grown {w0 W : World} {g : Nat} {f0 : ByteArray} {f1 : Int} {f2 : Int} {W1 : World} {row : Option Nat} (h : IsS98 w0 W g f0 f1 f2) (hw : W.grownBy W1 row) (hne : some g ≠ row) : IsS98 w0 W1 g f0 f1 f2 := by
 obtain ⟨hb, hg⟩ := h
 exact ⟨blk_grown hb hw hne, hg⟩
theorem IsS98.below {w0 W : World} {g : Nat} {f0 : ByteArray} {f1 : Int} {f2 : Int} {W1 : World} (h : IsS98 w0 W g f0 f1 f2) (hw : Below W.heap.size W W1) : IsS98 w0 W1 g f0 f1 f2 := h.grown (grown_of_below hw none) (by simp)
theorem IsS98.alloc {w0 W : World} {g : Nat} {f0 : ByteArray} {f1 : Int} {f2 : Int} (h : IsS98 w0 W g f0 f1 f2) (o : Obj) : IsS98 w0 (W.alloc o) g f0 f1 f2 := h.below (below_alloc (Below.refl _ _) o)
theorem IsS98.drewN {w0 W : World} {g : Nat} {f0 : ByteArray} {f1 : Int} {f2 : Int} (h : IsS98 w0 W g f0 f1 f2) (m : Nat) : IsS98 w0 (W.drewN m) g f0 f1 f2 := h
theorem IsS98.drew {w0 W : World} {g : Nat} {f0 : ByteArray} {f1 : Int} {f2 : Int} (h : IsS98 w0 W g f0 f1 f2) : IsS98 w0 W.drew g f0 f1 f2 := h
theorem IsS98.lt {w0 W : World} {g : Nat} {f0 : ByteArray} {f1 : Int} {f2 : Int} (h : IsS98 w0 W g f0 f1 f2) : g < W.heap.size := by
 obtain ⟨hb, hg⟩ := h
 exact blk_lt hb
theorem IsS98.ge {w0 W : World} {g : Nat} {f0 : ByteArray} {f1 : Int} {f2 : Int} (h : IsS98 w0 W g f0 f1 f2) : w0.heap.size ≤ g := by
 obtain ⟨hb, hg⟩ := h
 exact hg
theorem IsS98.far {w0 W : World} {g : Nat} {f0 : ByteArray} {f1 : Int} {f2 : Int} {p : Addr} (h : IsS98 w0 W g f0 f1 f2) (hne : g ≠ p.block) (u : Value) : IsS98 w0 (W.setCell p u) g f0 f1 f2 := by
 obtain ⟨hb, hg⟩ := h
 exact ⟨blk_far hb hne u, hg⟩
theorem cellS98_0 {W : World} {g : Nat} {f0 : ByteArray} {f1 : Int} {f2 : Int} (h : W.heap[g]? = some (.cells #[.string f0, .int .i64 f1, .int .i64 f2] 98 (0, 0))) : W.cell? ⟨g, 0, none⟩ = some (.string f0) := (blk_cell h 0).trans rfl
theorem IsS98.set_0 {w0 W : World} {g : Nat} {f0 : ByteArray} {f1 : Int} {f2 : Int} (h : IsS98 w0 W g f0 f1 f2) (x : ByteArray) : IsS98 w0 (W.setCell ⟨g, 0, none⟩ (.string x)) g x f1 f2 := by
 obtain ⟨hb, hg⟩ := h
 exact ⟨by simpa using blk_set hb 0 (.string x), hg⟩
theorem cellS98_1 {W : World} {g : Nat} {f0 : ByteArray} {f1 : Int} {f2 : Int} (h : W.heap[g]? = some (.cells #[.string f0, .int .i64 f1, .int .i64 f2] 98 (0, 0))) : W.cell? ⟨g, 1, none⟩ = some (.int .i64 f1) := (blk_cell h 1).trans rfl
theorem IsS98.set_1 {w0 W : World} {g : Nat} {f0 : ByteArray} {f1 : Int} {f2 : Int} (h : IsS98 w0 W g f0 f1 f2) (x : Int) : IsS98 w0 (W.setCell ⟨g, 1, none⟩ (.int .i64 x)) g f0 x f2 := by
 obtain ⟨hb, hg⟩ := h
 exact ⟨by simpa using blk_set hb 1 (.int .i64 x), hg⟩
theorem cellS98_2 {W : World} {g : Nat} {f0 : ByteArray} {f1 : Int} {f2 : Int} (h : W.heap[g]? = some (.cells #[.string f0, .int .i64 f1, .int .i64 f2] 98 (0, 0))) : W.cell? ⟨g, 2, none⟩ = some (.int .i64 f2) := (blk_cell h 2).trans rfl
theorem IsS98.set_2 {w0 W : World} {g : Nat} {f0 : ByteArray} {f1 : Int} {f2 : Int} (h : IsS98 w0 W g f0 f1 f2) (x : Int) : IsS98 w0 (W.setCell ⟨g, 2, none⟩ (.int .i64 x)) g f0 f1 x := by
 obtain ⟨hb, hg⟩ := h
 exact ⟨by simpa using blk_set hb 2 (.int .i64 x), hg⟩
theorem IsS98.new (w0 W : World) (f0 : ByteArray) (f1 : Int) (f2 : Int) (hB : Below w0.heap.size w0 W) : IsS98 w0 (W.alloc (.cells #[.string f0, .int .i64 f1, .int .i64 f2] 98)) W.heap.size f0 f1 f2 := ⟨by simpa using heap_alloc_new W _, hB.size⟩
def line_reader_peek.f (s0_0 : ByteArray) (s0_1 : Int) (s0_2 : Int) : Option (Int × ByteArray × Int × Int) := if s0_2 = 0 then (if s0_1 ≥ (s0_0.size : Int) then (some (0, s0_0, s0_1, s0_2)) else (if 0 ≤ s0_1 then (if s0_1 < (s0_0.size : Int) then (some (bt s0_0 s0_1, s0_0, s0_1, s0_2)) else (none)) else (none))) else (some (0, s0_0, s0_1, s0_2))
set_option maxHeartbeats 8000000 in
set_option maxRecDepth 100000 in
theorem line_reader_peek.calls (g : Nat) (s0_0 : ByteArray) (s0_1 : Int) (s0_2 : Int) (r1 : Int) (r2 : ByteArray) (r3 : Int) (r4 : Int) (w0 w : World) (hG : GG w0) (hI : IsS98 w0 w g s0_0 s0_1 s0_2) (hB : Below w0.heap.size w0 w) (h : line_reader_peek.f s0_0 s0_1 s0_2 = some (r1, r2, r3, r4)) :
  Calls Tryz.prog 52 #[.pointer (some ⟨g, 0, none⟩)] w fun e w' => e = .returned (.int .u8 r1) ∧ IsS98 w0 w' g r2 r3 r4 ∧ Below w0.heap.size w0 w' ∧ KeepBut w w' g none := by
 have HI0 := Aside0.mk hI; have HK := Aside0.mk (KeepBut.refl w g none); have HL := Aside0.mk hB.size; clear hI; have HW0 := Aside0.mk hB.size; have HB := Aside0.mk hB; clear hB; have H : (if s0_2 = 0 then (if s0_1 ≥ (s0_0.size : Int) then (some (0, s0_0, s0_1, s0_2)) else (if 0 ≤ s0_1 then (if s0_1 < (s0_0.size : Int) then (some (bt s0_0 s0_1, s0_0, s0_1, s0_2)) else (none)) else (none))) else (some (0, s0_0, s0_1, s0_2))) = some (r1, r2, r3, r4) := h; clear h; replace H := zIe H; rcases H with ⟨-, c2b0, c2b1, H⟩ | ⟨c2, c2b0, c2b1, H⟩
 ·replace H := zI H; rcases H with ⟨c3, H⟩ | ⟨c3, H⟩
  ·have c3b0 : decide ((s0_0.size : Int) ≤ s0_1) = true := decide_eq_true c3; clear c3; simp only [Option.some.injEq, Prod.mk.injEq] at H; obtain ⟨rfl, rfl, rfl, rfl⟩ := H; obtain ⟨HGz4, hgz4⟩ := HI0.out; have hcz4_0 := cellS98_0 HGz4; have hcz4_1 := cellS98_1 HGz4; have hcz4_2 := cellS98_2 HGz4; have hfz4_0 := blk_frozen HGz4 0; have hfz4_1 := blk_frozen HGz4 1; have hfz4_2 := blk_frozen HGz4 2; clear HGz4 hgz4
   go_enter Tryz.func52, Tryz.ntmps52
   go_wp2
   repeat (go_quiet (fail); try go_wp2)
   go_ret; exact ⟨zE, by repeat (first | (with_reducible first | exact HI0.out | apply IsS98.alloc | apply IsS98.drewN | apply IsS98.drew | apply IsS98.set_0 | apply IsS98.set_1 | apply IsS98.set_2) | exact HI0.out), by repeat (first | (with_reducible first | exact HB.out | apply below_alloc | apply pw_below_drewN | apply below_drew1 | refine below_set ?_ (IsS98.ge HI0.out)) | exact HB.out), by repeat (first | (with_reducible first | exact HK.out | apply KeepBut.set_ | apply keep_drewN | apply keep_drew | apply keep_alloc) | exact HK.out)⟩
  ·have c3b0 : decide ((s0_0.size : Int) ≤ s0_1) = false := decide_eq_false c3; clear c3; replace H := zJd H; obtain ⟨-, c5b0, H⟩ := H; replace H := zJd H; obtain ⟨-, c6b0, H⟩ := H; simp only [Option.some.injEq, Prod.mk.injEq] at H; obtain ⟨rfl, rfl, rfl, rfl⟩ := H; obtain ⟨HGz8, hgz8⟩ := HI0.out; have hcz8_0 := cellS98_0 HGz8; have hcz8_1 := cellS98_1 HGz8; have hcz8_2 := cellS98_2 HGz8; have hfz8_0 := blk_frozen HGz8 0; have hfz8_1 := blk_frozen HGz8 1; have hfz8_2 := blk_frozen HGz8 2; clear HGz8 hgz8; have p7 := zP (0 ≤ (s0_1 : Int)); have q7 := zP (s0_1 < (s0_0.size : Int)); have hx7 := bt_at s0_0 s0_1
   go_enter Tryz.func52, Tryz.ntmps52
   go_wp2
   repeat (go_quiet (fail); try go_wp2)
   go_ret; exact ⟨zE, by repeat (first | (with_reducible first | exact HI0.out | apply IsS98.alloc | apply IsS98.drewN | apply IsS98.drew | apply IsS98.set_0 | apply IsS98.set_1 | apply IsS98.set_2) | exact HI0.out), by repeat (first | (with_reducible first | exact HB.out | apply below_alloc | apply pw_below_drewN | apply below_drew1 | refine below_set ?_ (IsS98.ge HI0.out)) | exact HB.out), by repeat (first | (with_reducible first | exact HK.out | apply KeepBut.set_ | apply keep_drewN | apply keep_drew | apply keep_alloc) | exact HK.out)⟩
 ·simp only [Option.some.injEq, Prod.mk.injEq] at H; obtain ⟨rfl, rfl, rfl, rfl⟩ := H; obtain ⟨HGz9, hgz9⟩ := HI0.out; have hcz9_0 := cellS98_0 HGz9; have hcz9_1 := cellS98_1 HGz9; have hcz9_2 := cellS98_2 HGz9; have hfz9_0 := blk_frozen HGz9 0; have hfz9_1 := blk_frozen HGz9 1; have hfz9_2 := blk_frozen HGz9 2; clear HGz9 hgz9
  go_enter Tryz.func52, Tryz.ntmps52
  go_wp2
  repeat (go_quiet (fail); try go_wp2)
  go_ret; exact ⟨zE, by repeat (first | (with_reducible first | exact HI0.out | apply IsS98.alloc | apply IsS98.drewN | apply IsS98.drew | apply IsS98.set_0 | apply IsS98.set_1 | apply IsS98.set_2) | exact HI0.out), by repeat (first | (with_reducible first | exact HB.out | apply below_alloc | apply pw_below_drewN | apply below_drew1 | refine below_set ?_ (IsS98.ge HI0.out)) | exact HB.out), by repeat (first | (with_reducible first | exact HK.out | apply KeepBut.set_ | apply keep_drewN | apply keep_drew | apply keep_alloc) | exact HK.out)⟩
def line_reader_wrong.f (s0_0 : ByteArray) (s0_1 : Int) (s0_2 : Int) (a1 : Int) (a2 : Int) : Option (ByteArray × Int × Int) := if s0_2 = 0 then (some (s0_0, a2, a1)) else (some (s0_0, s0_1, s0_2))
set_option maxHeartbeats 8000000 in
set_option maxRecDepth 100000 in
theorem line_reader_wrong.calls (g : Nat) (s0_0 : ByteArray) (s0_1 : Int) (s0_2 : Int) (a1 : Int) (a2 : Int) (r1 : ByteArray) (r2 : Int) (r3 : Int) (w0 w : World) (hG : GG w0) (hI : IsS98 w0 w g s0_0 s0_1 s0_2) (hB : Below w0.heap.size w0 w) (h : line_reader_wrong.f s0_0 s0_1 s0_2 a1 a2 = some (r1, r2, r3)) :
  Calls Tryz.prog 54 #[.pointer (some ⟨g, 0, none⟩), .int .i64 a1, .int .i64 a2] w fun e w' => e = .returned (.tuple #[]) ∧ IsS98 w0 w' g r1 r2 r3 ∧ Below w0.heap.size w0 w' ∧ KeepBut w w' g none := by
 have HI0 := Aside0.mk hI; have HK := Aside0.mk (KeepBut.refl w g none); have HL := Aside0.mk hB.size; clear hI; have HW0 := Aside0.mk hB.size; have HB := Aside0.mk hB; clear hB; have H : (if s0_2 = 0 then (some (s0_0, a2, a1)) else (some (s0_0, s0_1, s0_2))) = some (r1, r2, r3) := h; clear h; replace H := zIe H; rcases H with ⟨-, c4b0, c4b1, H⟩ | ⟨c4, c4b0, c4b1, H⟩
 ·simp only [Option.some.injEq, Prod.mk.injEq] at H; obtain ⟨rfl, rfl, rfl⟩ := H; obtain ⟨HGz5, hgz5⟩ := HI0.out; have hcz5_0 := cellS98_0 HGz5; have hcz5_1 := cellS98_1 HGz5; have hcz5_2 := cellS98_2 HGz5; have hfz5_0 := blk_frozen HGz5 0; have hfz5_1 := blk_frozen HGz5 1; have hfz5_2 := blk_frozen HGz5 2; clear HGz5 hgz5
  go_enter Tryz.func54, Tryz.ntmps54
  go_wp2
  first | go_end0 | ((try simp only [Exit.inBlock, Exit.then]); refine bodyPost_ret (results_none rfl _ _ _) rfl ?_)
  exact ⟨zE, by repeat (first | (with_reducible first | exact HI0.out | apply IsS98.alloc | apply IsS98.drewN | apply IsS98.drew | apply IsS98.set_0 | apply IsS98.set_1 | apply IsS98.set_2) | exact HI0.out), by repeat (first | (with_reducible first | exact HB.out | apply below_alloc | apply pw_below_drewN | apply below_drew1 | refine below_set ?_ (IsS98.ge HI0.out)) | exact HB.out), by repeat (first | (with_reducible first | exact HK.out | apply KeepBut.set_ | apply keep_drewN | apply keep_drew | apply keep_alloc) | exact HK.out)⟩
 ·simp only [Option.some.injEq, Prod.mk.injEq] at H; obtain ⟨rfl, rfl, rfl⟩ := H; obtain ⟨HGz6, hgz6⟩ := HI0.out; have hcz6_0 := cellS98_0 HGz6; have hcz6_1 := cellS98_1 HGz6; have hcz6_2 := cellS98_2 HGz6; have hfz6_0 := blk_frozen HGz6 0; have hfz6_1 := blk_frozen HGz6 1; have hfz6_2 := blk_frozen HGz6 2; clear HGz6 hgz6
  go_enter Tryz.func54, Tryz.ntmps54
  go_wp2
  first | go_end0 | ((try simp only [Exit.inBlock, Exit.then]); refine bodyPost_ret (results_none rfl _ _ _) rfl ?_)
  exact ⟨zE, by repeat (first | (with_reducible first | exact HI0.out | apply IsS98.alloc | apply IsS98.drewN | apply IsS98.drew | apply IsS98.set_0 | apply IsS98.set_1 | apply IsS98.set_2) | exact HI0.out), by repeat (first | (with_reducible first | exact HB.out | apply below_alloc | apply pw_below_drewN | apply below_drew1 | refine below_set ?_ (IsS98.ge HI0.out)) | exact HB.out), by repeat (first | (with_reducible first | exact HK.out | apply KeepBut.set_ | apply keep_drewN | apply keep_drew | apply keep_alloc) | exact HK.out)⟩
def escape_control.f (a0 : Int) (a1 : Bool) : Option (Bool) := if a0 = 9 then (some false) else (if a0 = 10 then (some (!a1)) else (if a0 < 32 then (some true) else (some (a0 == 127))))
set_option maxHeartbeats 8000000 in
set_option maxRecDepth 100000 in
theorem escape_control.calls (a0 : Int) (a1 : Bool) (r : Bool) (w : World) (hG : GG w) (h : escape_control.f a0 a1 = some r) :
  Calls Tryz.prog 78 #[.int .u8 a0, .bool a1] w fun e w' => e = .returned (.bool r) ∧ Drawn0 w w' := by
 have H : (if a0 = 9 then (some false) else (if a0 = 10 then (some (!a1)) else (if a0 < 32 then (some true) else (some (a0 == 127))))) = some r := h; clear h; replace H := zIe H; rcases H with ⟨-, c3b0, c3b1, H⟩ | ⟨c3, c3b0, c3b1, H⟩
 ·obtain rfl := Option.some.inj H
  go_enter Tryz.func78, Tryz.ntmps78
  go_wp2; go_ret
  exact ⟨zS, zD⟩
 ·replace H := zIe H; rcases H with ⟨-, c4b0, c4b1, H⟩ | ⟨c4, c4b0, c4b1, H⟩
  ·obtain rfl := Option.some.inj H
   go_enter Tryz.func78, Tryz.ntmps78
   go_wp2; go_ret
   exact ⟨zS, zD⟩
  ·replace H := zId H; rcases H with ⟨-, c5b0, H⟩ | ⟨-, c5b0, H⟩
   ·obtain rfl := Option.some.inj H
    go_enter Tryz.func78, Tryz.ntmps78
    go_wp2; go_ret
    exact ⟨zS, zD⟩
   ·obtain rfl := Option.some.inj H
    go_enter Tryz.func78, Tryz.ntmps78
    go_wp2; go_ret
    exact ⟨zS, zD⟩
end Go.Proofs.YtdojmdbaiddkgaaGreatDoor.Print
end
section
set_option linter.unusedVariables false
set_option linter.unusedSimpArgs false
namespace Go.Proofs.YtdojmdbaiddkgaaGreatDoor.Print
open Go.RowKit Go.Proofs.YtdojmdbaiddkgaaGreatDoorW.PrintWords Go.Proofs.YtdojmdbaiddkgaaGreatDoorW.PrintLast
def greatB (c : UInt8) : UInt8 := if 97 ≤ c.toNat ∧ c.toNat ≤ 122 then c - 32 else c
theorem greatB_yes (c : UInt8) (h : 97 ≤ c.toNat) (h2 : c.toNat ≤ 122) : ((greatB c).toNat : Int) = (c.toNat : Int) - 32 := by
  unfold greatB
  rw [if_pos ⟨h, h2⟩, UInt8.toNat_sub_of_le c 32 (by rw [UInt8.le_iff_toNat_le]; show 32 ≤ _; omega)]
  show ((c.toNat - 32 : Nat) : Int) = _
  omega
theorem greatB_no (c : UInt8) (h : ¬ (97 ≤ c.toNat ∧ c.toNat ≤ 122)) : greatB c = c := if_neg h
theorem gcv_blk (s : ByteArray) (w : World) : ∃ w' cap cs, (convert 9 82 (.string s)).run Tryz.prog w = .ok (.slice (some ⟨w.heap.size, 0, none⟩) s.size cap) w' ∧ Below w.heap.size w w' ∧ w'.heap[w.heap.size]? = some (.cells cs 5 (cs.size, cs.size + 1)) ∧ s.size ≤ cs.size ∧ (∀ j, j < s.size → cs[j]? = some (.int .u8 ((s.data.toList.getD j 0).toNat : Nat))) := by
  refine ⟨Lib.bytesWorld w 5 s, _, _, Lib.run_convert_string_bytes w 9 82 5 s Tryz.underlying9 Tryz.underlying82 Tryz.underlying5, ⟨?_, ?_, ?_, ?_, fun j hj => Lib.bytesWorld_at_old w 5 s j hj⟩, Lib.bytesWorld_at_new w 5 s, ?_, fun j hj => ?_⟩
  · unfold Lib.bytesWorld World.freeze; split <;> rfl
  · unfold Lib.bytesWorld World.freeze; split <;> rfl
  · unfold Lib.bytesWorld World.freeze; split <;> rfl
  · rw [Lib.bytesWorld_size]; omega
  · unfold Lib.bytesCells; rw [Array.size_append, Array.size_map]; show s.data.size ≤ _; omega
  · have h := Lib.bytesWorld_cell w 5 s j hj
    simp only [World.cell?, Lib.bytesWorld_at_new] at h
    simpa using h
theorem gblk_cell {w : World} {g : Nat} {cs : Array Value} {t : TypeId} {fr : Nat × Nat} (h : w.heap[g]? = some (.cells cs t fr)) (j : Nat) : w.cell? ⟨g, j, none⟩ = cs[j]? := by simp [World.cell?, h]
theorem gblk_froz {w : World} {g : Nat} {cs : Array Value} {t : TypeId} (h : w.heap[g]? = some (.cells cs t (cs.size, cs.size + 1))) (j : Nat) (hj : j < cs.size) : w.frozen? ⟨g, j, none⟩ = false := by simp [World.frozen?, h]; omega
theorem gblk_set {w : World} {g : Nat} {t : TypeId} {cs : Array Value} {fr : Nat × Nat} (h : w.heap[g]? = some (.cells cs t fr)) (i : Nat) (u : Value) : (w.setCell ⟨g, i, none⟩ u).heap[g]? = some (.cells (cs.setIfInBounds i u) t fr) := by
  simp [World.setCell, Array.getElem?_modify, h]
def greatS (s : ByteArray) : ByteArray := ⟨(s.data.toList.map greatB).toArray⟩
/-- The bytes, great up to a place. -/
structure GrB (s : ByteArray) (G : Nat) (i : Nat) (w : World) : Prop where
  ex : ∃ cs : Array Value, w.heap[G]? = some (.cells cs 5 (cs.size, cs.size + 1)) ∧ s.size ≤ cs.size ∧ (∀ j, j < i → cs[j]? = some (.int .u8 ((greatB (s.data.toList.getD j 0)).toNat : Nat))) ∧ (∀ j, i ≤ j → j < s.size → cs[j]? = some (.int .u8 ((s.data.toList.getD j 0).toNat : Nat)))
theorem grB_step {s : ByteArray} {G i : Nat} {w : World} (h : GrB s G i w) (hi : i < s.size) (u : Value) (hu : u = .int .u8 ((greatB (s.data.toList.getD i 0)).toNat : Nat)) : GrB s G (i + 1) (w.setCell ⟨G, i, none⟩ u) := by
  obtain ⟨cs, h1, h2, h3, h4⟩ := h.ex
  refine ⟨cs.setIfInBounds i u, ?_, by rw [Array.size_setIfInBounds]; exact h2, fun j hj => ?_, fun j hj hjs => ?_⟩
  · rw [Array.size_setIfInBounds]; exact gblk_set h1 i u
  · by_cases e : j = i
    · subst e; rw [Array.getElem?_setIfInBounds_self_of_lt (by omega), hu]
    · rw [Array.getElem?_setIfInBounds_ne (by omega)]; exact h3 j (by omega)
  · rw [Array.getElem?_setIfInBounds_ne (by omega)]; exact h4 j (by omega) hjs
theorem grB_skip {s : ByteArray} {G i : Nat} {w : World} (h : GrB s G i w) (hi : i < s.size) (hu : greatB (s.data.toList.getD i 0) = s.data.toList.getD i 0) : GrB s G (i + 1) w := by
  obtain ⟨cs, h1, h2, h3, h4⟩ := h.ex
  refine ⟨_, h1, h2, fun j hj => ?_, fun j hj hjs => h4 j (by omega) hjs⟩
  by_cases e : j = i
  · subst e; rw [hu]; exact h4 j (Nat.le_refl _) hi
  · exact h3 j (by omega)
set_option maxHeartbeats 4000000 in
set_option maxRecDepth 100000 in
theorem great_walk (s : ByteArray) (w : World) (hs : s.size ≤ 9223372036854775807) :
    Calls Tryz.prog 56 #[.string s] w fun e w' => e = .returned (.string (greatS s)) ∧ Below w.heap.size w w' := by
  obtain ⟨w1, cap, cs, hrun, hB1, hb, hle, hcs⟩ := gcv_blk s w
  obtain ⟨G, hG⟩ : ∃ G, G = w.heap.size := ⟨_, rfl⟩
  rw [← hG] at hrun hb
  have HG := Aside0.mk hG
  have HS := Aside0.mk (show GrB s G 0 w1 from ⟨cs, hb, hle, fun j hj => by omega, fun j _ hj => hcs j hj⟩)
  have HB := Aside0.mk hB1
  clear hb hle hcs hB1 hG
  go_enter Tryz.func56, Tryz.ntmps56
  go_wp2_with fail
  clear hrun
  go_loopg [4, 5, 10] s.size (fun g v4 v5 v10 wr => ∃ i : Nat, v10 = .int .i64 i ∧ i ≤ s.size ∧ Aside0 (s.size ≤ i + g) ∧ Aside0 (GrB s G i wr) ∧ Aside0 (Below w.heap.size w wr))
  case atStart => exact ⟨0, rfl, by omega, ⟨by omega⟩, HS, HB⟩
  case round =>
    obtain ⟨i, rfl, hi, HK, HC, HBr⟩ := hrel
    by_cases hlt : i < s.size
    · cases gk with
      | zero => exfalso; have := HK.out; omega
      | succ g =>
      obtain ⟨cs, h1, h2, h3, h4⟩ := HC.out.ex
      obtain ⟨c, hc⟩ : ∃ c, c = s.data.toList.getD i 0 := ⟨_, rfl⟩
      have hold : wr.cell? ⟨G, i, none⟩ = some (.int .u8 ((c.toNat : Nat) : Int)) := by rw [gblk_cell h1, h4 i (Nat.le_refl _) hlt, ← hc]
      have hfz : wr.frozen? ⟨G, i, none⟩ = false := gblk_froz h1 i (by omega)
      have hc2 : c.toNat < 256 := c.toNat_lt
      have HCc := Aside0.mk hc
      clear h1 h2 h3 h4 hc
      by_cases hg1 : 97 ≤ c.toNat
      · by_cases hg2 : c.toNat ≤ 122
        · have hy := greatB_yes c hg1 hg2
          have HY := Aside0.mk hy
          clear hy
          have k1 : decide ((c.toNat : Int) ≥ 97) = true := decide_eq_true (by omega)
          have k2 : decide ((c.toNat : Int) ≤ 122) = true := decide_eq_true (by omega)
          go_wp2_with fail
          go_roundg g
          case measure => have := HK.out; omega
          case rel => exact ⟨i + 1, by first | rfl | (go_num; done), by omega, ⟨by have := HK.out; omega⟩, ⟨grB_step HC.out hlt _ (by rw [← HCc.out, HY.out])⟩, ⟨Below.setCell HBr.out (by have := HG.out; show _ ≤ G; omega) _⟩⟩
        · have hy := greatB_no c (by omega)
          have HY := Aside0.mk hy
          clear hy
          have k1 : decide ((c.toNat : Int) ≥ 97) = true := decide_eq_true (by omega)
          have k2 : decide ((c.toNat : Int) ≤ 122) = false := decide_eq_false (by omega)
          go_wp2_with fail
          go_roundg g
          case measure => have := HK.out; omega
          case rel => exact ⟨i + 1, by first | rfl | (go_num; done), by omega, ⟨by have := HK.out; omega⟩, ⟨grB_skip HC.out hlt (by rw [← HCc.out, HY.out])⟩, HBr⟩
      · have hy := greatB_no c (by omega)
        have HY := Aside0.mk hy
        clear hy
        have k1 : decide ((c.toNat : Int) ≥ 97) = false := decide_eq_false (by omega)
        go_wp2_with fail
        go_roundg g
        case measure => have := HK.out; omega
        case rel => exact ⟨i + 1, by first | rfl | (go_num; done), by omega, ⟨by have := HK.out; omega⟩, ⟨grB_skip HC.out hlt (by rw [← HCc.out, HY.out])⟩, HBr⟩
    · have hin : i = s.size := by omega
      subst hin
      have hl : (s.data.toList.map greatB).length = s.size := by simp
      have hcv := run_convert_bytes_back (P := Tryz.prog) wr 82 9 5 ⟨G, 0, none⟩ cap (s.data.toList.map greatB) Tryz.underlying82 Tryz.underlying5 Tryz.underlying9 (fun j hj => by
        obtain ⟨cs, h1, h2, h3, h4⟩ := HC.out.ex
        have ha : (⟨G, 0, none⟩ : Addr).add j = ⟨G, j, none⟩ := by
          unfold Addr.add
          split
          · rename_i h8; subst h8; rfl
          · simp
        have hj2 : j < s.size := by rw [hl] at hj; exact hj
        rw [ha, gblk_cell h1, h3 j hj2, List.getElem_map, List.getD_eq_getElem?_getD, List.getElem?_eq_getElem (by rw [Array.length_toList]; exact hj2)]; rfl)
      rw [hl] at hcv
      clear hl
      go_wp2_with fail
      go_ret
      exact ⟨rfl, HBr.out⟩
def line_Great.f (a0 : ByteArray) : Option ByteArray := if a0.size ≤ 9223372036854775807 then some (greatS a0) else none
theorem line_Great.calls (a0 : ByteArray) (r : ByteArray) (w : World) (hG : GG w) (h : line_Great.f a0 = some r) :
    Calls Tryz.prog 56 #[.string a0] w fun e w' => e = .returned (.string r) ∧ Below w.heap.size w w' := by
  unfold line_Great.f at h
  by_cases hs : a0.size ≤ 9223372036854775807
  · rw [if_pos hs] at h
    obtain rfl := Option.some.inj h
    exact great_walk a0 w hs
  · rw [if_neg hs] at h; cases h
end Go.Proofs.YtdojmdbaiddkgaaGreatDoor.Print
end
section
set_option linter.unusedVariables false
set_option linter.unusedSimpArgs false
namespace Go.Proofs.YtdojmdbaiddkgaaGreatDoor.Print
open Go.RowKit Go.Proofs.YtdojmdbaiddkgaaGreatDoorW.PrintWords Go.Proofs.YtdojmdbaiddkgaaGreatDoorW.PrintLast
/-- Signs of names, small letters too. -/
def signS (c : UInt8) : Bool := (line_sign.f ((c.toNat : Nat) : Int) false).getD false
theorem signS_f (c : UInt8) : line_sign.f ((c.toNat : Nat) : Int) false = some (signS c) := by
  unfold signS
  have h : ∃ b, line_sign.f ((c.toNat : Nat) : Int) false = some b := by
    unfold line_sign.f
    repeat' split
    all_goals exact ⟨_, rfl⟩
  obtain ⟨b, hb⟩ := h
  rw [hb]; rfl
/-- How many bytes a name has, of so many at most. -/
def nameEnd (l : List UInt8) (n : Nat) : Nat := ((l.take n).takeWhile signS).length
theorem nameEnd_nil (n : Nat) : nameEnd [] n = 0 := by simp [nameEnd]
theorem nameEnd_zero (l : List UInt8) : nameEnd l 0 = 0 := by simp [nameEnd]
theorem nameEnd_yes (c : UInt8) (t : List UInt8) (n : Nat) (h : signS c = true) : nameEnd (c :: t) (n + 1) = nameEnd t n + 1 := by simp [nameEnd, h]
theorem nameEnd_no (c : UInt8) (t : List UInt8) (n : Nat) (h : signS c = false) : nameEnd (c :: t) (n + 1) = 0 := by simp [nameEnd, h]
def line_reader_name.f (s0_0 : ByteArray) (s0_1 : Int) (s0_2 : Int) : Option (ByteArray × ByteArray × Int × Int) :=
  if s0_2 = 0 ∧ 0 ≤ s0_1 ∧ s0_1 ≤ (s0_0.size : Int) ∧ s0_0.size ≤ 4611686018427387904 then
    (if nameEnd (s0_0.data.toList.drop s0_1.toNat) 60 = 0 then some (⟨#[]⟩, s0_0, s0_1, 5)
     else some (greatS (s0_0.extract s0_1.toNat (s0_1.toNat + nameEnd (s0_0.data.toList.drop s0_1.toNat) 60)), s0_0, ((s0_1.toNat + nameEnd (s0_0.data.toList.drop s0_1.toNat) 60 : Nat) : Int), 0))
  else none
theorem ext_same {s : ByteArray} {b i : Nat} (h : i = b) : greatS (s.extract b i) = ⟨#[]⟩ := by
  subst h
  have : s.extract i i = ⟨#[]⟩ := by
    apply ByteArray.ext
    rw [ByteArray.data_extract, Array.extract_eq_empty_iff.2 (by omega)]
  rw [this]; rfl
theorem name_fin {s : ByteArray} {b i n : Nat} {r1 : ByteArray} {r3 r4 : Int} (hz : n = i - b) (hr : if n = 0 then r1 = ⟨#[]⟩ ∧ r3 = (b : Int) ∧ r4 = 5 else r1 = greatS (s.extract b (b + n)) ∧ r3 = ((b + n : Nat) : Int) ∧ r4 = 0) (hbi : b ≤ i := by omega) :
    (i = b → r1 = ⟨#[]⟩ ∧ r3 = (b : Int) ∧ r4 = 5) ∧ (i ≠ b → r1 = greatS (s.extract b i) ∧ r3 = (i : Int) ∧ r4 = 0) := by
  refine ⟨fun h => ?_, fun h => ?_⟩
  · rw [if_pos (by omega)] at hr; exact hr
  · rw [if_neg (by omega), show b + n = i by omega] at hr; exact hr
set_option maxHeartbeats 8000000 in
set_option maxRecDepth 100000 in
theorem name_walk (g : Nat) (s : ByteArray) (b : Nat) (w0 w : World) (hG : GG w0) (hI : IsS98 w0 w g s b 0) (hB : Below w0.heap.size w0 w) (hb : b ≤ s.size) (hs : s.size ≤ 4611686018427387904) (r1 : ByteArray) (r3 r4 : Int)
    (hr : Aside0 (if nameEnd (s.data.toList.drop b) 60 = 0 then r1 = ⟨#[]⟩ ∧ r3 = (b : Int) ∧ r4 = 5 else r1 = greatS (s.extract b (b + nameEnd (s.data.toList.drop b) 60)) ∧ r3 = ((b + nameEnd (s.data.toList.drop b) 60 : Nat) : Int) ∧ r4 = 0)) :
    Calls Tryz.prog 51 #[.pointer (some ⟨g, 0, none⟩)] w fun e w' => e = .returned (.string r1) ∧ IsS98 w0 w' g s r3 r4 ∧ Below w0.heap.size w0 w' ∧ KeepBut w w' g none := by
  have HI := Aside0.mk hI
  have HB := Aside0.mk hB
  have HGG := Aside0.mk hG
  have hge := hI.ge
  have hcz0 := cellS98_0 hI.1
  have hcz1 := cellS98_1 hI.1
  have hcz2 := cellS98_2 hI.1
  have hfz1 := blk_frozen hI.1 1
  clear hI hB hG
  go_enter Tryz.func51, Tryz.ntmps51
  go_wp2_with fail
  clear hcz0 hcz1 hcz2 hfz1
  go_loopg [38] 60 (fun g2 v38 wr => ∃ i : Nat, b ≤ i ∧ i ≤ s.size ∧ i - b ≤ 60 ∧ Aside0 (60 ≤ (i - b) + g2) ∧ Aside0 (IsS98 w0 wr g s i 0) ∧ Aside0 (Below w0.heap.size w0 wr) ∧ Aside0 (KeepBut w wr g none) ∧ Aside0 (nameEnd (s.data.toList.drop b) 60 = (i - b) + nameEnd (s.data.toList.drop i) (60 - (i - b))))
  case atStart => exact ⟨b, by omega, hb, by omega, ⟨by omega⟩, HI, HB, ⟨KeepBut.refl _ _ _⟩, ⟨by simp⟩⟩
  case round =>
    obtain ⟨i, hbi, his, hi60, HK, HIr, HBr, HKr, HE⟩ := hrel
    have hcz0 := cellS98_0 HIr.out.1
    have hcz1 := cellS98_1 HIr.out.1
    have hcz2 := cellS98_2 HIr.out.1
    have hfz1 := blk_frozen HIr.out.1 1
    have HL := Aside0.mk HIr.out.lt
    have hsn := signS_f
    have HSN := Aside0.mk hsn
    clear hsn
    have hdb : IntKind.i64.wrap ((i : Int) - (b : Int)) = (i : Int) - (b : Int) := IntWalk.i64_in _ (by omega)
    clear hdb
    by_cases hlt : i < s.size
    · have d1 : decide (i < s.size) = true := decide_eq_true hlt
      by_cases h60 : i - b < 60
      · obtain ⟨c, hc⟩ : ∃ c : UInt8, s[i] = c := ⟨_, rfl⟩
        have hcl := HSN.out c
        have hdr : s.data.toList.drop i = c :: s.data.toList.drop (i + 1) := by
          rw [List.drop_eq_getElem_cons (by simpa using hlt)]; rw [← hc]; rfl
        obtain ⟨r, hr⟩ : ∃ r, r = signS c := ⟨_, rfl⟩
        rw [← hr] at hcl
        have HC := Aside0.mk hcl
        have HD := Aside0.mk (And.intro hdr hr)
        clear hcl hdr
        have d2 : decide ((i : Int) - (b : Int) < 60) = true := decide_eq_true (by omega)
        have d3 : IntKind.i64.wrap ((i : Int) - (b : Int)) = (i : Int) - (b : Int) := IntWalk.i64_in _ (by omega)
        clear hr
        cases r with
        | true =>
          cases gk with
          | zero => exfalso; have := HK.out; omega
          | succ g2 =>
          have HE2 : Aside0 (nameEnd (s.data.toList.drop b) 60 = (i + 1 - b) + nameEnd (s.data.toList.drop (i + 1)) (60 - (i + 1 - b))) := ⟨by
            have e := HE.out
            have e2 : 60 - (i - b) = (60 - (i + 1 - b)) + 1 := by omega
            rw [HD.out.1, e2, nameEnd_yes c _ _ HD.out.2.symm] at e
            rw [e]; omega⟩
          go_wp2_with fail
          go_quiet ((go_at_call 70; exact Calls.quiet_of ((line_sign.calls _ _ true _ (HGG.out.below (pw_below_drewN HBr.out _)) HC.out).mono fun e w' h => ⟨h.1, h.2.out⟩)))
          go_wp2_with fail
          go_roundg g2
          case measure => have := HK.out; omega
          case rel => exact ⟨i + 1, by omega, by omega, by omega, ⟨by have := HK.out; omega⟩, ⟨by first | exact (HIr.out.drewN _).set_1 _ | (have h9 := (HIr.out.drewN 0).set_1 ((i : Int) + 1); exact h9)⟩, ⟨below_set (pw_below_drewN HBr.out _) hge⟩, ⟨(keep_drewN HKr.out _).set_ _ _⟩, HE2⟩
        | false =>
          have HZ : Aside0 (nameEnd (s.data.toList.drop b) 60 = i - b) := ⟨by
            have e := HE.out
            have e2 : 60 - (i - b) = (60 - (i + 1 - b)) + 1 := by omega
            rw [HD.out.1, e2, nameEnd_no c _ _ HD.out.2.symm] at e
            omega⟩
          go_wp2_with fail
          go_quiet ((go_at_call 70; exact Calls.quiet_of ((line_sign.calls _ _ false _ (HGG.out.below (pw_below_drewN HBr.out _)) HC.out).mono fun e w' h => ⟨h.1, h.2.out⟩)))
          have HX : Aside0 ((s.extract b i).size ≤ 9223372036854775807) := ⟨by rw [ByteArray.size_extract]; omega⟩
          have HR := Aside0.mk (name_fin HZ.out hr.out)
          by_cases e0 : i = b
          · obtain ⟨rfl, rfl, rfl⟩ := HR.out.1 e0
            have HE0 := Aside0.mk e0
            have hii : (i : Int) = (b : Int) := by omega
            have hib : ((i : Int) == (b : Int)) = true := beq_iff_eq.2 hii
            clear hii e0
            go_wp2_with (go_at_call 54; refine (line_reader_wrong.calls g s i 0 5 i s i 5 w0 _ HGG.out (HIr.out.drewN _) (pw_below_drewN HBr.out _) rfl).mono ?_; rintro e w2 ⟨rfl, hI2, hB2, hK2⟩)
            have HI2 := Aside0.mk hI2
            have HB2 := Aside0.mk hB2
            have HK2 := Aside0.mk ((keep_drewN HKr.out _).trans hK2 (.inl rfl))
            clear hI2 hB2 hK2 hcz0 hcz1 hcz2 hfz1
            have HL := Aside0.mk HI2.out.lt
            have hcz0 := cellS98_0 HI2.out.1
            have hcz1 := cellS98_1 HI2.out.1
            have hcz2 := cellS98_2 HI2.out.1
            go_wp2_with fail
            go_region_held3 (fun w' => w'.cell? ⟨g, 0, none⟩ = some (.string s) ∧ w'.cell? ⟨g, 1, none⟩ = some (.int .i64 i)) (first | go_keep | exact ⟨(hB3.cell (p := ⟨g, 0, none⟩) HL.out).trans hcz0, (hB3.cell (p := ⟨g, 1, none⟩) HL.out).trans hcz1⟩) (first | (go_at_call 56; refine (great_walk (s.extract b i) _ HX.out).mono ?_; rintro e w3 ⟨rfl, hB3⟩))
            have HB3 := Aside0.mk hB3
            clear hB3
            go_wp2_with fail
            go_ret
            refine ⟨by rw [ext_same HE0.out]; rfl, ?_, ?_, ?_⟩
            · rw [← HE0.out]; exact (HI2.out.drewN _).below HB3.out
            · exact (pw_below_drewN HB2.out _).trans (HB3.out.mono (pw_below_drewN HB2.out _).size)
            · exact (keep_drewN HK2.out _).trans (KeepBut.of_below HB3.out g none) (.inl rfl)
          · obtain ⟨rfl, rfl, rfl⟩ := HR.out.2 e0
            have hib : ((i : Int) == (b : Int)) = false := beq_eq_false_iff_ne.2 (by omega)
            go_wp2_with fail
            go_region_held3 (fun w' => w'.cell? ⟨g, 0, none⟩ = some (.string s) ∧ w'.cell? ⟨g, 1, none⟩ = some (.int .i64 i)) (first | go_keep | exact ⟨(hB3.cell (p := ⟨g, 0, none⟩) HL.out).trans hcz0, (hB3.cell (p := ⟨g, 1, none⟩) HL.out).trans hcz1⟩) (first | (go_at_call 56; refine (great_walk (s.extract b i) _ HX.out).mono ?_; rintro e w3 ⟨rfl, hB3⟩))
            have HB3 := Aside0.mk hB3
            clear hB3
            go_wp2_with fail
            go_ret
            exact ⟨rfl, (HIr.out.drewN _).below HB3.out, (pw_below_drewN HBr.out _).trans (HB3.out.mono (pw_below_drewN HBr.out _).size), (keep_drewN HKr.out _).trans (KeepBut.of_below HB3.out g none) (.inl rfl)⟩
      · have HZ : Aside0 (nameEnd (s.data.toList.drop b) 60 = i - b) := ⟨by
          have e := HE.out
          have e2 : 60 - (i - b) = 0 := by omega
          rw [e2, nameEnd_zero (s.data.toList.drop i)] at e
          omega⟩
        have d2 : decide ((i : Int) - (b : Int) < 60) = false := decide_eq_false (by omega)
        have d3 : IntKind.i64.wrap ((i : Int) - (b : Int)) = (i : Int) - (b : Int) := IntWalk.i64_in _ (by omega)
        go_wp2_with fail
        go_quiet (fail)
        have HX : Aside0 ((s.extract b i).size ≤ 9223372036854775807) := ⟨by rw [ByteArray.size_extract]; omega⟩
        have HR := Aside0.mk (name_fin HZ.out hr.out)
        by_cases e0 : i = b
        · obtain ⟨rfl, rfl, rfl⟩ := HR.out.1 e0
          have HE0 := Aside0.mk e0
          have hii : (i : Int) = (b : Int) := by omega
          have hib : ((i : Int) == (b : Int)) = true := beq_iff_eq.2 hii
          clear hii e0
          go_wp2_with (go_at_call 54; refine (line_reader_wrong.calls g s i 0 5 i s i 5 w0 _ HGG.out (HIr.out.drewN _) (pw_below_drewN HBr.out _) rfl).mono ?_; rintro e w2 ⟨rfl, hI2, hB2, hK2⟩)
          have HI2 := Aside0.mk hI2
          have HB2 := Aside0.mk hB2
          have HK2 := Aside0.mk ((keep_drewN HKr.out _).trans hK2 (.inl rfl))
          clear hI2 hB2 hK2 hcz0 hcz1 hcz2 hfz1
          have HL := Aside0.mk HI2.out.lt
          have hcz0 := cellS98_0 HI2.out.1
          have hcz1 := cellS98_1 HI2.out.1
          have hcz2 := cellS98_2 HI2.out.1
          go_wp2_with fail
          go_region_held3 (fun w' => w'.cell? ⟨g, 0, none⟩ = some (.string s) ∧ w'.cell? ⟨g, 1, none⟩ = some (.int .i64 i)) (first | go_keep | exact ⟨(hB3.cell (p := ⟨g, 0, none⟩) HL.out).trans hcz0, (hB3.cell (p := ⟨g, 1, none⟩) HL.out).trans hcz1⟩) (first | (go_at_call 56; refine (great_walk (s.extract b i) _ HX.out).mono ?_; rintro e w3 ⟨rfl, hB3⟩))
          have HB3 := Aside0.mk hB3
          clear hB3
          go_wp2_with fail
          go_ret
          refine ⟨by rw [ext_same HE0.out]; rfl, ?_, ?_, ?_⟩
          · rw [← HE0.out]; exact (HI2.out.drewN _).below HB3.out
          · exact (pw_below_drewN HB2.out _).trans (HB3.out.mono (pw_below_drewN HB2.out _).size)
          · exact (keep_drewN HK2.out _).trans (KeepBut.of_below HB3.out g none) (.inl rfl)
        · obtain ⟨rfl, rfl, rfl⟩ := HR.out.2 e0
          have hib : ((i : Int) == (b : Int)) = false := beq_eq_false_iff_ne.2 (by omega)
          go_wp2_with fail
          go_region_held3 (fun w' => w'.cell? ⟨g, 0, none⟩ = some (.string s) ∧ w'.cell? ⟨g, 1, none⟩ = some (.int .i64 i)) (first | go_keep | exact ⟨(hB3.cell (p := ⟨g, 0, none⟩) HL.out).trans hcz0, (hB3.cell (p := ⟨g, 1, none⟩) HL.out).trans hcz1⟩) (first | (go_at_call 56; refine (great_walk (s.extract b i) _ HX.out).mono ?_; rintro e w3 ⟨rfl, hB3⟩))
          have HB3 := Aside0.mk hB3
          clear hB3
          go_wp2_with fail
          go_ret
          exact ⟨rfl, (HIr.out.drewN _).below HB3.out, (pw_below_drewN HBr.out _).trans (HB3.out.mono (pw_below_drewN HBr.out _).size), (keep_drewN HKr.out _).trans (KeepBut.of_below HB3.out g none) (.inl rfl)⟩
    · have HZ : Aside0 (nameEnd (s.data.toList.drop b) 60 = i - b) := ⟨by
        have e := HE.out
        rw [show s.data.toList.drop i = [] from List.drop_eq_nil_of_le (by simp; omega), nameEnd_nil] at e
        omega⟩
      have d1 : decide (i < s.size) = false := decide_eq_false hlt
      go_wp2_with fail
      go_quiet (fail)
      have HX : Aside0 ((s.extract b i).size ≤ 9223372036854775807) := ⟨by rw [ByteArray.size_extract]; omega⟩
      have HR := Aside0.mk (name_fin HZ.out hr.out)
      by_cases e0 : i = b
      · obtain ⟨rfl, rfl, rfl⟩ := HR.out.1 e0
        have HE0 := Aside0.mk e0
        have hii : (i : Int) = (b : Int) := by omega
        have hib : ((i : Int) == (b : Int)) = true := beq_iff_eq.2 hii
        clear hii e0
        go_wp2_with (go_at_call 54; refine (line_reader_wrong.calls g s i 0 5 i s i 5 w0 _ HGG.out (HIr.out.drewN _) (pw_below_drewN HBr.out _) rfl).mono ?_; rintro e w2 ⟨rfl, hI2, hB2, hK2⟩)
        have HI2 := Aside0.mk hI2
        have HB2 := Aside0.mk hB2
        have HK2 := Aside0.mk ((keep_drewN HKr.out _).trans hK2 (.inl rfl))
        clear hI2 hB2 hK2 hcz0 hcz1 hcz2 hfz1
        have HL := Aside0.mk HI2.out.lt
        have hcz0 := cellS98_0 HI2.out.1
        have hcz1 := cellS98_1 HI2.out.1
        have hcz2 := cellS98_2 HI2.out.1
        go_wp2_with fail
        go_region_held3 (fun w' => w'.cell? ⟨g, 0, none⟩ = some (.string s) ∧ w'.cell? ⟨g, 1, none⟩ = some (.int .i64 i)) (first | go_keep | exact ⟨(hB3.cell (p := ⟨g, 0, none⟩) HL.out).trans hcz0, (hB3.cell (p := ⟨g, 1, none⟩) HL.out).trans hcz1⟩) (first | (go_at_call 56; refine (great_walk (s.extract b i) _ HX.out).mono ?_; rintro e w3 ⟨rfl, hB3⟩))
        have HB3 := Aside0.mk hB3
        clear hB3
        go_wp2_with fail
        go_ret
        refine ⟨by rw [ext_same HE0.out]; rfl, ?_, ?_, ?_⟩
        · rw [← HE0.out]; exact (HI2.out.drewN _).below HB3.out
        · exact (pw_below_drewN HB2.out _).trans (HB3.out.mono (pw_below_drewN HB2.out _).size)
        · exact (keep_drewN HK2.out _).trans (KeepBut.of_below HB3.out g none) (.inl rfl)
      · obtain ⟨rfl, rfl, rfl⟩ := HR.out.2 e0
        have hib : ((i : Int) == (b : Int)) = false := beq_eq_false_iff_ne.2 (by omega)
        go_wp2_with fail
        go_region_held3 (fun w' => w'.cell? ⟨g, 0, none⟩ = some (.string s) ∧ w'.cell? ⟨g, 1, none⟩ = some (.int .i64 i)) (first | go_keep | exact ⟨(hB3.cell (p := ⟨g, 0, none⟩) HL.out).trans hcz0, (hB3.cell (p := ⟨g, 1, none⟩) HL.out).trans hcz1⟩) (first | (go_at_call 56; refine (great_walk (s.extract b i) _ HX.out).mono ?_; rintro e w3 ⟨rfl, hB3⟩))
        have HB3 := Aside0.mk hB3
        clear hB3
        go_wp2_with fail
        go_ret
        exact ⟨rfl, (HIr.out.drewN _).below HB3.out, (pw_below_drewN HBr.out _).trans (HB3.out.mono (pw_below_drewN HBr.out _).size), (keep_drewN HKr.out _).trans (KeepBut.of_below HB3.out g none) (.inl rfl)⟩
theorem line_reader_name.calls (g : Nat) (s0_0 : ByteArray) (s0_1 : Int) (s0_2 : Int) (r1 : ByteArray) (r2 : ByteArray) (r3 : Int) (r4 : Int) (w0 w : World) (hG : GG w0) (hI : IsS98 w0 w g s0_0 s0_1 s0_2) (hB : Below w0.heap.size w0 w) (h : line_reader_name.f s0_0 s0_1 s0_2 = some (r1, r2, r3, r4)) :
    Calls Tryz.prog 51 #[.pointer (some ⟨g, 0, none⟩)] w fun e w' => e = .returned (.string r1) ∧ IsS98 w0 w' g r2 r3 r4 ∧ Below w0.heap.size w0 w' ∧ KeepBut w w' g none := by
  unfold line_reader_name.f at h
  by_cases hc : s0_2 = 0 ∧ 0 ≤ s0_1 ∧ s0_1 ≤ (s0_0.size : Int) ∧ s0_0.size ≤ 4611686018427387904
  · rw [if_pos hc] at h
    obtain ⟨rfl, h0, h1, h2⟩ := hc
    obtain ⟨b, rfl⟩ : ∃ b : Nat, s0_1 = (b : Int) := ⟨s0_1.toNat, by omega⟩
    rw [Int.toNat_natCast] at h
    by_cases hn : nameEnd (s0_0.data.toList.drop b) 60 = 0
    · rw [if_pos hn] at h
      simp only [Option.some.injEq, Prod.mk.injEq] at h
      obtain ⟨rfl, rfl, rfl, rfl⟩ := h
      exact name_walk g s0_0 b w0 w hG hI hB (by omega) h2 _ _ _ ⟨by rw [if_pos hn]; exact ⟨rfl, rfl, rfl⟩⟩
    · rw [if_neg hn] at h
      simp only [Option.some.injEq, Prod.mk.injEq] at h
      obtain ⟨rfl, rfl, rfl, rfl⟩ := h
      exact name_walk g s0_0 b w0 w hG hI hB (by omega) h2 _ _ _ ⟨by rw [if_neg hn]; exact ⟨rfl, rfl, rfl⟩⟩
  · rw [if_neg hc] at h; cases h
end Go.Proofs.YtdojmdbaiddkgaaGreatDoor.Print
end
section
namespace Go.Proofs.YtdojmdbaiddkgaaGreatDoor.Print
open Go.RowKit Go.Proofs.YtdojmdbaiddkgaaGreatDoorW.PrintWords Go.Proofs.YtdojmdbaiddkgaaGreatDoorW.PrintLast
set_option linter.unusedVariables false
set_option linter.unusedSimpArgs false
def escape_Clean.l0 : Nat → ByteArray → Bool → Int → Int → Option (Int)
 | 0, _, _, _, _ => none
 | k + 1, x0, x1, x10, x11 => if x11 < x10 then (if 0 ≤ x11 then (if x11 < (x0.size : Int) then ((escape_control.f (bt x0 x11) x1).bind fun t131 => (if t131 = true then (some 7) else (escape_Clean.l0 k x0 x1 x10 (wrap64 (x11 + 1))))) else (none)) else (none)) else (some 0)
def escape_Clean.f (k : Nat) (a0 : ByteArray) (a1 : Bool) : Option (Int) := (utf8_ValidString.f a0).bind fun t130 => (if t130 = true then (escape_Clean.l0 k a0 a1 (a0.size : Int) 0) else (some 3))
set_option maxHeartbeats 8000000 in
set_option maxRecDepth 100000 in
theorem escape_Clean.calls (k : Nat) (a0 : ByteArray) (a1 : Bool) (r : Int) (w : World) (hG : GG w) (h : escape_Clean.f k a0 a1 = some r) :
  Calls Tryz.prog 55 #[.string a0, .bool a1] w fun e w' => e = .returned (.int .i64 r) ∧ Below w.heap.size w w' := by
 have HB := Aside0.mk (Below.refl w.heap.size w); have H : ((utf8_ValidString.f a0).bind fun t130 => (if t130 = true then (escape_Clean.l0 k a0 a1 (a0.size : Int) 0) else (some 3))) = some r := h; clear h; replace H := zO H; obtain ⟨t130, A3, H⟩ := H; replace H := zIb H; rcases H with ⟨rfl, H⟩ | ⟨rfl, H⟩
 ·have H' := Aside0.mk H; clear H
  go_enter Tryz.func55, Tryz.ntmps55
  go_wp2_with (first | ((with_reducible refine gate_callee (f := 50) rfl ?_); refine zqb 7 Tryz.func50 #[.string a0] (utf8_ValidString.calls a0 true _ zG A3.out) (fun w5 hb => ?_); replace HB := zw hb; (try clear hb)))
  go_loopg [11] k (fun kq v11 w' => ∃ (x11_1 : Int), v11 = .int .i64 x11_1 ∧ Aside0 (escape_Clean.l0 kq a0 a1 (a0.size : Int) x11_1 = some r) ∧ Aside0 (kq ≤ k) ∧ Aside0 (Below w.heap.size w w'))
  case atStart => exact ⟨(0), zS, H', ⟨Nat.le_refl _⟩, ⟨zB⟩⟩
  case round =>
   clear H'; obtain ⟨x11_1, rfl, HA, HK1, HB⟩ := hrel
   cases gk with
   | zero => exact absurd HA.out (by simp [escape_Clean.l0])
   | succ k1 =>
    have H := HA.out; clear HA; simp only [escape_Clean.l0] at H; replace H := zId H; rcases H with ⟨-, c6b0, H⟩ | ⟨-, c6b0, H⟩
    ·replace H := zJd H; obtain ⟨-, c7b0, H⟩ := H; replace H := zJd H; obtain ⟨-, c8b0, H⟩ := H; replace H := zO H; obtain ⟨t131, A10, H⟩ := H; replace H := zIb H; rcases H with ⟨rfl, H⟩ | ⟨rfl, H⟩
     ·obtain rfl := Option.some.inj H; have p9 := zP (0 ≤ (x11_1 : Int)); have q9 := zP (x11_1 < (a0.size : Int)); have hx9 := bt_at a0 x11_1
      go_wp2_with (first | ((with_reducible refine gate_callee (f := 78) rfl ?_); refine zq 18 Tryz.func78 #[.int .u8 (bt a0 x11_1), .bool a1] (escape_control.calls (bt a0 x11_1) a1 true _ zG A10.out) (fun nd => ?_)))
      go_ret; exact ⟨zE, zB⟩
     ·have H' := Aside0.mk H; clear H; have p9 := zP (0 ≤ (x11_1 : Int)); have q9 := zP (x11_1 < (a0.size : Int)); have hx9 := bt_at a0 x11_1
      go_wp2_with (first | ((with_reducible refine gate_callee (f := 78) rfl ?_); refine zq 18 Tryz.func78 #[.int .u8 (bt a0 x11_1), .bool a1] (escape_control.calls (bt a0 x11_1) a1 false _ zG A10.out) (fun nd => ?_)))
      go_roundg k1
      case measure => have := HK1.out; omega
      case rel => exact ⟨(wrap64 (x11_1 + 1)), zS, H', ⟨by have := HK1.out; omega⟩, ⟨zB⟩⟩
    ·obtain rfl := Option.some.inj H; go_wp2; go_ret; exact ⟨zE, zB⟩
 ·obtain rfl := Option.some.inj H
  go_enter Tryz.func55, Tryz.ntmps55
  go_wp2_with (first | ((with_reducible refine gate_callee (f := 50) rfl ?_); refine zqb 7 Tryz.func50 #[.string a0] (utf8_ValidString.calls a0 false _ zG A3.out) (fun w12 hb => ?_); replace HB := zw hb; (try clear hb)))
  go_ret; exact ⟨zE, zB⟩
end Go.Proofs.YtdojmdbaiddkgaaGreatDoor.Print
end
section
set_option linter.unusedVariables false
set_option linter.unusedSimpArgs false
namespace Go.Proofs.YtdojmdbaiddkgaaGreatDoor.Print
open Go.RowKit Go.Proofs.YtdojmdbaiddkgaaGreatDoorW.PrintWords Go.Proofs.YtdojmdbaiddkgaaGreatDoorW.PrintLast
theorem pblk_cell {w : World} {g : Nat} {cs : Array Value} {t : TypeId} {fr : Nat × Nat} (h : w.heap[g]? = some (.cells cs t fr)) (j : Nat) : w.cell? ⟨g, j, none⟩ = cs[j]? := by simp [World.cell?, h]
theorem pblk_froz {w : World} {g : Nat} {cs : Array Value} {t : TypeId} (h : w.heap[g]? = some (.cells cs t (0, 0))) (j : Nat) : w.frozen? ⟨g, j, none⟩ = false := by simp [World.frozen?, h]
theorem blkA {w : World} {g : Nat} {x : Obj} (hx : w.heap[g]? = some x) (o : Obj) : (w.alloc o).heap[g]? = some x := by
  rw [Below.heap_alloc _ _ _ (Array.getElem?_eq_some_iff.1 hx).1]; exact hx
/-- A block that was there stays under what changes a state alone. -/
theorem keepBlk {w w' : World} {g b : Nat} {o : Obj} (hk : KeepBut w w' g none) (h : w.heap[b]? = some o) (hne : b ≠ g) : w'.heap[b]? = some o := (hk.2 b (Array.getElem?_eq_some_iff.1 h).1 hne (by simp)).trans h
/-- Where the reading of parameters stands. -/
structure PSt (w : World) (g L R0 : Nat) (nm vl : ByteArray) (l : List S77) (s1 : ByteArray) (a fl : Int) (v : Value) (wr : World) : Prop where
  st : IsS98 w wr g s1 a fl
  bel : Below w.heap.size w wr
  res : wr.heap[R0]? = some (.cells #[.string ⟨#[]⟩, .slice none 0 0, .string ⟨#[]⟩] 49 (0, 0))
  loc : wr.heap[L]? = some (.cells #[.string nm, v, .string vl] 49 (0, 0))
  row : Kd.S k77 77 wr w.heap.size (fun _ => True) v l
  hL : w.heap.size ≤ L
  hR : w.heap.size ≤ R0
  ne : L ≠ g ∧ R0 ≠ g ∧ R0 ≠ L
theorem typesB : ∀ q, q ∈ 77 :: k77.E → q ≠ 98 := by decide
theorem typesL : ∀ q, q ∈ 77 :: k77.E → q ≠ 49 := by decide
theorem PSt.set_at {w : World} {g L R0 : Nat} {nm vl : ByteArray} {l : List S77} {s1 : ByteArray} {a fl : Int} {v : Value} {wr : World} (h : PSt w g L R0 nm vl l s1 a fl v wr) (b : Int) : PSt w g L R0 nm vl l s1 b fl v (wr.setCell ⟨g, 1, none⟩ (.int .i64 b)) :=
  ⟨h.st.set_1 b, below_set h.bel h.st.ge, by rw [Below.heap_setCell _ _ _ _ (by show R0 ≠ g; exact h.ne.2.1)]; exact h.res, by rw [Below.heap_setCell _ _ _ _ (by show L ≠ g; exact h.ne.1)]; exact h.loc, Kd.S_set h.row h.st.1 typesB 1 _, h.hL, h.hR, h.ne⟩
theorem PSt.keep {w : World} {g L R0 : Nat} {nm vl : ByteArray} {l : List S77} {s1 s2 : ByteArray} {a fl a2 fl2 : Int} {v : Value} {wr w2 : World} (h : PSt w g L R0 nm vl l s1 a fl v wr) (hI : IsS98 w w2 g s2 a2 fl2) (hB : Below w.heap.size w w2) (hK : KeepBut wr w2 g none) : PSt w g L R0 nm vl l s2 a2 fl2 v w2 :=
  ⟨hI, hB, keepBlk hK h.res h.ne.2.1, keepBlk hK h.loc h.ne.1, Kd.S_mono (Kd.S_keep (Kd.S_types h.row h.st.1 typesB) hK (fun _ hk => hk.2)) (fun _ _ => trivial), h.hL, h.hR, h.ne⟩
theorem PSt.below {w : World} {g L R0 : Nat} {nm vl : ByteArray} {l : List S77} {s1 : ByteArray} {a fl : Int} {v : Value} {wr w2 : World} (h : PSt w g L R0 nm vl l s1 a fl v wr) (hb : Below wr.heap.size wr w2) : PSt w g L R0 nm vl l s1 a fl v w2 :=
  h.keep (h.st.below hb) (h.bel.trans (hb.mono h.bel.size)) (KeepBut.of_below hb g none)
theorem PSt.setVal {w : World} {g L R0 : Nat} {nm vl : ByteArray} {l : List S77} {s1 : ByteArray} {a fl : Int} {v : Value} {wr : World} (h : PSt w g L R0 nm vl l s1 a fl v wr) (u : ByteArray) : PSt w g L R0 nm u l s1 a fl v (wr.setCell ⟨L, 2, none⟩ (.string u)) := by
  refine ⟨h.st.far (Ne.symm h.ne.1) _, h.bel.setCell (p := ⟨L, 2, none⟩) h.hL _, ?_, ?_, Kd.S_set h.row h.loc typesL 2 _, h.hL, h.hR, h.ne⟩
  · rw [Below.heap_setCell _ _ _ _ (by show R0 ≠ L; exact h.ne.2.2)]; exact h.res
  · have : (wr.setCell ⟨L, 2, none⟩ (.string u)).heap[L]? = some (.cells (#[.string nm, v, .string vl].setIfInBounds 2 (.string u)) 49 (0, 0)) := by
      simp [World.setCell, Array.getElem?_modify, h.loc]
    rw [this]; rfl
set_option maxHeartbeats 8000000 in
set_option maxRecDepth 100000 in
theorem parse0_walk (k : Nat) (s : ByteArray) (w : World) (hs : ¬ s.size > 2000) (hG : GG w) (hv : utf8_ValidString.f s = some true) (nm : ByteArray) (b : Nat) (hn : line_reader_name.f s 0 0 = some (nm, s, (b : Int), 0))
    (hp : line_reader_peek.f s (b : Int) 0 = some (58, s, (b : Int), 0)) (hbs : b < s.size) (hz : escape_Clean.f k (s.extract (b + 1) s.size) false = some 0) :
    Calls Tryz.prog 28 #[.string s] w fun e w' => e = .returned (.tuple #[.agg #[.string nm, .slice none 0 0, .string (s.extract (b + 1) s.size)], .int .i64 0, .int .i64 0]) ∧ Below w.heap.size w w' := by
  have d1 : decide ((s.size : Int) > 2000) = false := decide_eq_false (by omega)
  have HV := Aside0.mk hv
  have HN := Aside0.mk hn
  have HPK := Aside0.mk hp
  have HZ := Aside0.mk hz
  have HGG := Aside0.mk hG
  have hnot : ∀ (x : Bool) (w : World), (Op.unary .not (.bool x)).run Tryz.prog w = .ok (.bool (!x)) w := fun _ _ => rfl
  clear hv hn hp hz hG
  go_enter Tryz.func28, Tryz.ntmps28
  go_wp2_with fail
  go_at_call 50
  refine (utf8_ValidString.calls s true _ (HGG.out.alloc _) HV.out).mono ?_
  rintro e w2 ⟨rfl, hB⟩
  have HB := Aside0.mk (((below_alloc (Below.refl w.heap.size w) _).trans (hB.mono (by simp))))
  have hblk := (hB.block w.heap.size (by simp)).trans (heap_alloc_new w _)
  obtain ⟨R0, hR0⟩ : ∃ R0, R0 = w.heap.size := ⟨_, rfl⟩
  rw [← hR0] at hblk ⊢
  have HR0 := Aside0.mk hR0
  have HRB := Aside0.mk hblk
  have hlt2 : R0 < w2.heap.size := (Array.getElem?_eq_some_iff.1 hblk).1
  clear hB hblk hR0
  go_wp2_with fail
  go_at_call 51
  obtain ⟨g, hg⟩ : ∃ g, g = w2.heap.size := ⟨_, rfl⟩
  have hI0 := IsS98.new w w2 s 0 0 HB.out
  have hB0 := HB.out.alloc HB.out.size (.cells #[.string s, .int .i64 0, .int .i64 0] 98)
  have hRB0 := blkA HRB.out (.cells #[.string s, .int .i64 0, .int .i64 0] 98)
  rw [← hg] at hI0 ⊢
  have HGs := Aside0.mk hg
  refine (line_reader_name.calls g s 0 0 nm s b 0 w _ HGG.out hI0 hB0 HN.out).mono ?_
  rintro e w3 ⟨rfl, hI3, hB3, hK3⟩
  have HI3 := Aside0.mk hI3
  have HB3 := Aside0.mk hB3
  have HRB3 := Aside0.mk (keepBlk hK3 hRB0 (by omega))
  have hlt3 : g < w3.heap.size := hI3.lt
  clear hI0 hB0 hRB0 hI3 hB3 hK3 hg
  go_wp2_with fail
  obtain ⟨L, hL⟩ : ∃ L, L = w3.heap.size := ⟨_, rfl⟩
  have HP0 : Aside0 (PSt w g L R0 nm ⟨#[]⟩ [] s b 0 (.slice none 0 0) (w3.alloc (.cells #[.string nm, .slice none 0 0, .string ⟨#[]⟩] 49))) := ⟨by
    have hsz := HB3.out.size
    refine ⟨HI3.out.alloc _, HB3.out.alloc hsz _, blkA HRB3.out _, by rw [hL]; exact heap_alloc_new _ _, Kd.S_nil _ _ _ _ _, by omega, by have := HR0.out; omega, by omega, by have := HGs.out; omega, by have := HGs.out; omega⟩⟩
  rw [← hL] at ⊢
  clear hL
  go_loopg [25] 0 (fun kk v25 wr => Aside0 (PSt w g L R0 nm ⟨#[]⟩ [] s b 0 (.slice none 0 0) wr))
  case atStart => exact HP0
  case round =>
    have HP := hrel
    clear HP0
    have hst := HP.out.st
    go_wp2_with fail
    go_at_call 52
    refine (line_reader_peek.calls g s b 0 58 s b 0 w _ HGG.out HP.out.st HP.out.bel HPK.out).mono ?_
    rintro e w4 ⟨rfl, hI4, hB4, hK4⟩
    have HP4 := Aside0.mk (HP.out.keep hI4 hB4 hK4)
    have hcz1 := cellS98_1 hI4.1
    have hcz2 := cellS98_2 hI4.1
    have hfz1 := blk_frozen hI4.1 1
    clear hI4 hB4 hK4 hst
    have hLc := pblk_cell HP4.out.loc 2
    go_wp2_with (go_at_call 52; refine (line_reader_peek.calls g s b 0 58 s b 0 w _ HGG.out HP4.out.st HP4.out.bel HPK.out).mono ?_; rintro e w5 ⟨rfl, hI5, hB5, hK5⟩; have HP5 := Aside0.mk (HP4.out.keep hI5 hB5 hK5); have k1 := cellS98_1 hI5.1; have k2 := cellS98_2 hI5.1; have kf := blk_frozen hI5.1 1; have l2 := pblk_cell HP5.out.loc 2; have lf := pblk_froz HP5.out.loc 2; have hLg := HP5.out.ne.1; clear hI5 hB5 hK5)
    have HP7 := Aside0.mk ((HP5.out.set_at ((b : Int) + 1)).setVal (s.extract (b + 1) s.size))
    obtain ⟨W7, hW7⟩ : ∃ W7, W7 = (w5.setCell ⟨g, 1, none⟩ (.int .i64 ((b : Int) + 1))).setCell ⟨L, 2, none⟩ (.string (s.extract (b + 1) s.size)) := ⟨_, rfl⟩
    rw [← hW7] at HP7 ⊢
    clear hW7 k1 k2 kf l2 lf
    go_at_call 55
    refine (escape_Clean.calls k _ false 0 W7 (HGG.out.below HP7.out.bel) HZ.out).mono ?_
    rintro e w8 ⟨rfl, hB8⟩
    have HP8 := Aside0.mk (HP7.out.below hB8)
    clear hB8
    have k1 := cellS98_1 HP8.out.st.1
    have k2 := cellS98_2 HP8.out.st.1
    have l0 := pblk_cell HP8.out.loc 0
    have l1 := pblk_cell HP8.out.loc 1
    have l2 := pblk_cell HP8.out.loc 2
    have r0 := pblk_cell HP8.out.res 0
    have r1 := pblk_cell HP8.out.res 1
    have r2 := pblk_cell HP8.out.res 2
    have z0 := pblk_froz HP8.out.res 0
    have z1 := pblk_froz HP8.out.res 1
    have z2 := pblk_froz HP8.out.res 2
    go_wp2_with fail
    refine bodyPost_ret (v := .tuple #[.agg #[.string nm, .slice none 0 0, .string (s.extract (b + 1) s.size)], .int .i64 0, .int .i64 0]) (by simp [results, Tryz.results28, go_sem, r0, r1, r2]) rfl ⟨rfl, ?_⟩
    repeat (first | exact HP8.out.bel | refine Below.setCell ?_ (by exact HP8.out.hR) _)
end Go.Proofs.YtdojmdbaiddkgaaGreatDoor.Print
end
section
set_option linter.unusedVariables false
set_option linter.unusedSimpArgs false
namespace Go.Proofs.YtdojmdbaiddkgaaGreatDoor.Print
open Go.RowKit Go.Proofs.YtdojmdbaiddkgaaGreatDoorW.PrintWords Go.Proofs.YtdojmdbaiddkgaaGreatDoorW.PrintLast
abbrev tBegin : ByteArray := ⟨#[66, 69, 71, 73, 78]⟩
abbrev tEnd : ByteArray := ⟨#[69, 78, 68]⟩
abbrev tA : ByteArray := ⟨#[65]⟩
theorem unfoldA : fold_Unfold.f 40 ⟨#[66, 69, 71, 73, 78, 58, 65, 13, 10, 69, 78, 68, 58, 65, 13, 10]⟩ = some ([⟨#[66, 69, 71, 73, 78, 58, 65]⟩, ⟨#[69, 78, 68, 58, 65]⟩], 0, 0) := by decide +kernel
theorem parseB (w : World) (hG : GG w) : Calls Tryz.prog 28 #[.string ⟨#[66, 69, 71, 73, 78, 58, 65]⟩] w fun e w' => e = .returned (.tuple #[.agg #[.string tBegin, .slice none 0 0, .string tA], .int .i64 0, .int .i64 0]) ∧ Below w.heap.size w w' := by
  have h := parse0_walk 20 ⟨#[66, 69, 71, 73, 78, 58, 65]⟩ w (by decide) hG (by decide +kernel) tBegin 5 (by decide +kernel) (by decide +kernel) (by decide) (by decide +kernel)
  rw [show (ByteArray.extract ⟨#[66, 69, 71, 73, 78, 58, 65]⟩ (5 + 1) (ByteArray.size ⟨#[66, 69, 71, 73, 78, 58, 65]⟩)) = tA by decide +kernel] at h
  exact h
theorem parseE (w : World) (hG : GG w) : Calls Tryz.prog 28 #[.string ⟨#[69, 78, 68, 58, 65]⟩] w fun e w' => e = .returned (.tuple #[.agg #[.string tEnd, .slice none 0 0, .string tA], .int .i64 0, .int .i64 0]) ∧ Below w.heap.size w w' := by
  have h := parse0_walk 20 ⟨#[69, 78, 68, 58, 65]⟩ w (by decide) hG (by decide +kernel) tEnd 3 (by decide +kernel) (by decide +kernel) (by decide) (by decide +kernel)
  rw [show (ByteArray.extract ⟨#[69, 78, 68, 58, 65]⟩ (3 + 1) (ByteArray.size ⟨#[69, 78, 68, 58, 65]⟩)) = tA by decide +kernel] at h
  exact h
theorem own_form1 {w : World} {base : Nat} {v : Value} {a b c : Value} (h : w.ownsRow base 31 3 v 1 [a, b, c]) : ∃ bk cap cur, v = .slice (some ⟨bk, 0, none⟩) 1 cap ∧ base ≤ bk ∧ w.heap[bk]? = some (.cells cur 31 (0, 0)) ∧ cur[0]? = some a ∧ cur[1]? = some b ∧ cur[2]? = some c := by
  rcases h.2 with ⟨_, h0⟩ | ⟨bk, cap, cur, rfl, h1, h2, h3, h4, h5, h6⟩
  · omega
  · have hg : ∀ j, j < 3 → cur[j]? = [a, b, c][j]? := fun j hj => by
      rw [← h6, ← Array.getElem?_toList, List.getElem?_take, if_pos (by omega)]
    exact ⟨bk, cap, cur, rfl, h1, h2, hg 0 (by omega), hg 1 (by omega), hg 2 (by omega)⟩
theorem cur3 {cur : Array Value} {x y z a b c : Value} (q0 : cur[0]? = some x) (q1 : cur[1]? = some y) (q2 : cur[2]? = some z) :
    (((cur.setIfInBounds 0 a).setIfInBounds 1 b).setIfInBounds 2 c)[0]? = some a ∧ (((cur.setIfInBounds 0 a).setIfInBounds 1 b).setIfInBounds 2 c)[1]? = some b ∧ (((cur.setIfInBounds 0 a).setIfInBounds 1 b).setIfInBounds 2 c)[2]? = some c := by
  have hs : 2 < cur.size := (Array.getElem?_eq_some_iff.1 q2).1
  refine ⟨?_, ?_, ?_⟩
  · rw [Array.getElem?_setIfInBounds_ne (by omega), Array.getElem?_setIfInBounds_ne (by omega), Array.getElem?_setIfInBounds_self_of_lt (by omega)]
  · rw [Array.getElem?_setIfInBounds_ne (by omega), Array.getElem?_setIfInBounds_self_of_lt (by rw [Array.size_setIfInBounds]; omega)]
  · rw [Array.getElem?_setIfInBounds_self_of_lt (by rw [Array.size_setIfInBounds, Array.size_setIfInBounds]; omega)]
/-- The reader's state. -/
def Rst (w : World) (g : Nat) (cs : Array Value) : Prop := w.heap[g]? = some (.cells cs 65 (0, 0))
def Opened (w w' : World) (g : Nat) : Prop := ∃ bk cap cur, w.heap.size ≤ bk ∧ Rst w' g #[.slice (some ⟨bk, 0, none⟩) 1 cap, .string ⟨#[]⟩, .slice none 0 0, .slice none 0 0, .bool false] ∧ w'.heap[bk]? = some (.cells cur 31 (0, 0)) ∧ cur[0]? = some (.string tA) ∧ cur[1]? = some (.slice none 0 0) ∧ cur[2]? = some (.slice none 0 0)
set_option maxHeartbeats 1000000 in
set_option maxRecDepth 100000 in
theorem begins_walk (g : Nat) (w : World) (h : Rst w g #[.slice none 0 0, .string ⟨#[]⟩, .slice none 0 0, .slice none 0 0, .bool false]) :
    Calls Tryz.prog 57 #[.pointer (some ⟨g, 0, none⟩), .string tA] w fun e w' => e = .returned (.int .i64 0) ∧ Below g w w' ∧ Opened w w' g := by
  have c0 := pblk_cell h 0
  have f0 := pblk_froz h 0
  have hgl : g < w.heap.size := blk_lt h
  go_enter Tryz.func57, Tryz.ntmps57
  go_wp2_with fail
  go_region_law (refine step_append_cells (w0 := w) (W := w.drew) w.heap.size (by rfl) (.tmp 14) (.tmp 18) 29 31 (.agg #[.string ⟨#[]⟩, .slice none 0 0, .slice none 0 0]) 3 64 (by rfl) Tryz.underlying29 info31 (by rfl) (by decide) (by decide) (.slice none 0 0) 0 [] [.string ⟨#[]⟩, .slice none 0 0, .slice none 0 0] (by rfl) (by rfl) rfl (by intro u hu; simp at hu; rcases hu with rfl | rfl <;> rfl) (own_nil _ _ _ _) (below_drew (Below.refl _ _)) (Nat.le_refl _) (by decide) ?_; intro v1 w1 hown hb hg hat; have HBB := Aside0.mk hb; obtain ⟨bk, cap, cur, rfl, hbk, hcur, q0, q1, q2⟩ := own_form1 hown; have hgk : g ≠ bk := by omega
                 have hg1 : w1.heap[g]? = w.heap[g]? := hg.block g hgl (by simp [Value.ownBlock])
                 have HRg := Aside0.mk (hg1.trans h)
                 have d0 := pblk_cell (hg1.trans h) 0
                 have df := pblk_froz (hg1.trans h) 0
                 have HCU := Aside0.mk hcur
                 have HQ := Aside0.mk (And.intro q0 (And.intro q1 q2))
                 have e0 := (pblk_cell hcur 0).trans q0
                 have e1 := (pblk_cell hcur 1).trans q1
                 have e2 := (pblk_cell hcur 2).trans q2
                 have z0 := pblk_froz hcur 0
                 have z1 := pblk_froz hcur 1
                 have z2 := pblk_froz hcur 2
                 clear hown hb hg hat hg1 hcur q0 q1 q2)
  all_goals
    go_wp2_with fail
    go_ret
    refine ⟨rfl, ?_, bk, cap, ((cur.setIfInBounds 0 (.string tA)).setIfInBounds 1 (.slice none 0 0)).setIfInBounds 2 (.slice none 0 0), hbk, ?_, ?_, ?_, ?_, ?_⟩
    · repeat (first | with_reducible exact (HBB.out.mono (Nat.le_of_lt hgl)) | with_reducible refine Below.setCell (p := ⟨g, _, none⟩) ?_ (show g ≤ g from Nat.le_refl _) _ | with_reducible refine Below.setCell (p := ⟨bk, _, none⟩) ?_ (show g ≤ bk by omega) _)
    · show _ = some (Obj.cells ((#[.slice none 0 0, .string ⟨#[]⟩, .slice none 0 0, .slice none 0 0, .bool false] : Array Value).setIfInBounds 0 (.slice (some ⟨bk, 0, none⟩) 1 cap)) 65 (0, 0))
      repeat (first | with_reducible exact HRg.out | with_reducible refine blk_far (p := ⟨bk, _, none⟩) ?_ (show g ≠ bk from hgk) _ | with_reducible refine blk_set ?_ 0 _)
    · repeat (first | with_reducible exact HCU.out | with_reducible refine blk_far (p := ⟨g, 0, none⟩) ?_ (show bk ≠ g from Ne.symm hgk) _ | with_reducible refine blk_set ?_ _ _)
    · exact (cur3 HQ.out.1 HQ.out.2.1 HQ.out.2.2).1
    · exact (cur3 HQ.out.1 HQ.out.2.1 HQ.out.2.2).2.1
    · exact (cur3 HQ.out.1 HQ.out.2.1 HQ.out.2.2).2.2
end Go.Proofs.YtdojmdbaiddkgaaGreatDoor.Print
end
section
set_option linter.unusedVariables false
set_option linter.unusedSimpArgs false
namespace Go.Proofs.YtdojmdbaiddkgaaGreatDoor.Print
open Go.RowKit Go.Proofs.YtdojmdbaiddkgaaGreatDoorW.PrintWords Go.Proofs.YtdojmdbaiddkgaaGreatDoorW.PrintLast
theorem five_cells (w : World) (g : Nat) {x0 x1 x2 x3 x4 : Value} (h : Rst w g #[x0, x1, x2, x3, x4]) (a b c d e : Value) :
    (((((w.setCell ⟨g, 0, none⟩ a).setCell ⟨g, 1, none⟩ b).setCell ⟨g, 2, none⟩ c).setCell ⟨g, 3, none⟩ d).setCell ⟨g, 4, none⟩ e).heap[g]? = some (.cells #[a, b, c, d, e] 65 (0, 0)) := by
  have h5 := blk_set (blk_set (blk_set (blk_set (blk_set h 0 a) 1 b) 2 c) 3 d) 4 e
  rw [h5]; rfl
theorem five_below (w : World) (g : Nat) (a b c d e : Value) (o : Obj) (hg : g < w.heap.size) :
    Below g w ((((((w.setCell ⟨g, 0, none⟩ a).setCell ⟨g, 1, none⟩ b).setCell ⟨g, 2, none⟩ c).setCell ⟨g, 3, none⟩ d).setCell ⟨g, 4, none⟩ e).alloc o) := by
  have hs : ∀ (W : World) (p : Addr) (u : Value), (W.setCell p u).heap.size = W.heap.size := fun W p u => by simp [World.setCell]
  have h1 := ((((((Below.refl g w).setCell (p := ⟨g, 0, none⟩) (Nat.le_refl g) a).setCell (p := ⟨g, 1, none⟩) (Nat.le_refl g) b).setCell (p := ⟨g, 2, none⟩) (Nat.le_refl g) c).setCell (p := ⟨g, 3, none⟩) (Nat.le_refl g) d).setCell (p := ⟨g, 4, none⟩) (Nat.le_refl g) e)
  exact h1.alloc (by rw [hs, hs, hs, hs, hs]; omega) o
set_option maxHeartbeats 1000000 in
set_option maxRecDepth 100000 in
theorem ends_walk (g bk cap : Nat) (cur : Array Value) (w : World) (h : Rst w g #[.slice (some ⟨bk, 0, none⟩) 1 cap, .string ⟨#[]⟩, .slice none 0 0, .slice none 0 0, .bool false]) (hb : w.heap[bk]? = some (.cells cur 31 (0, 0))) (q0 : cur[0]? = some (.string tA)) (q1 : cur[1]? = some (.slice none 0 0)) (q2 : cur[2]? = some (.slice none 0 0)) :
    Calls Tryz.prog 58 #[.pointer (some ⟨g, 0, none⟩), .string tA] w fun e w' => e = .returned (.int .i64 0) ∧ Below g w w' ∧ ∃ v, Rst w' g #[v, .string tA, .slice none 0 0, .slice none 0 0, .bool true] := by
  have c0 := pblk_cell h 0
  have c1 := pblk_cell h 1
  have c2 := pblk_cell h 2
  have c3 := pblk_cell h 3
  have c4 := pblk_cell h 4
  have f0 := pblk_froz h 0
  have f1 := pblk_froz h 1
  have f2 := pblk_froz h 2
  have f3 := pblk_froz h 3
  have f4 := pblk_froz h 4
  have e0 := (pblk_cell hb 0).trans q0
  have e1 := (pblk_cell hb 1).trans q1
  have e2 := (pblk_cell hb 2).trans q2
  have hgl : g < w.heap.size := blk_lt h
  have hbl : bk < w.heap.size := blk_lt hb
  have hgk : g ≠ bk := by rintro rfl; rw [h] at hb; simp at hb
  have hA : (tA.toList != tA.toList) = false := by decide +kernel
  have HRg := Aside0.mk h
  clear h hb q0 q1 q2
  go_enter Tryz.func58, Tryz.ntmps58
  go_wp2
  go_ret
  exact ⟨rfl, five_below w g _ _ _ _ _ _ hgl, .slice (some ⟨bk, 0, none⟩) 0 cap, blk_alloc (five_cells w g HRg.out _ _ _ _ _) _⟩
end Go.Proofs.YtdojmdbaiddkgaaGreatDoor.Print
end
section
set_option linter.unusedVariables false
set_option linter.unusedSimpArgs false
namespace Go.Proofs.YtdojmdbaiddkgaaGreatDoor.Print
open Go.RowKit Go.Proofs.YtdojmdbaiddkgaaGreatDoorW.PrintWords Go.Proofs.YtdojmdbaiddkgaaGreatDoorW.PrintLast
theorem greatA : line_Great.f tA = some tA := by decide +kernel
theorem boundB : tree_bound.f tBegin = some true := by decide +kernel
theorem boundE : tree_bound.f tEnd = some true := by decide +kernel
theorem nameA : line_Name.f 5 tA = some true := by decide +kernel
set_option maxHeartbeats 1000000 in
set_option maxRecDepth 100000 in
theorem lineB_walk (g : Nat) (w : World) (hG : GG w) (h : Rst w g #[.slice none 0 0, .string ⟨#[]⟩, .slice none 0 0, .slice none 0 0, .bool false]) :
    Calls Tryz.prog 29 #[.pointer (some ⟨g, 0, none⟩), .agg #[.string tBegin, .slice none 0 0, .string tA]] w fun e w' => e = .returned (.int .i64 0) ∧ Below g w w' ∧ ∃ w1, Opened w1 w' g := by
  have hgl : g < w.heap.size := blk_lt h
  have HG := Aside0.mk hG
  have HR := Aside0.mk h
  have hnot : ∀ (x : Bool) (w : World), (Op.unary .not (.bool x)).run Tryz.prog w = .ok (.bool (!x)) w := fun _ _ => rfl
  have hn1 : (tBegin.toList != tBegin.toList) = false := by decide +kernel
  have hn2 : (tBegin.toList == tBegin.toList) = true := by decide +kernel
  clear hG h
  go_enter Tryz.func29, Tryz.ntmps29
  go_wp2_with fail
  go_at_call 56
  refine (line_Great.calls tA tA _ (GG.below HG.out (by repeat (first | exact Below.refl _ _ | apply below_alloc | apply pw_below_drewN | apply below_drew1))) greatA).mono ?_
  rintro e w2 ⟨rfl, hB⟩
  have HB : Aside0 (Below w.heap.size w w2) := ⟨(below_alloc (Below.refl w.heap.size w) _).trans (hB.mono (by simp))⟩
  have hbox := (hB.block w.heap.size (by simp)).trans (heap_alloc_new w _)
  have hr2 := (HB.out.block g hgl).trans HR.out
  have HR2 := Aside0.mk hr2
  have x0 := pblk_cell hbox 0
  have x1 := pblk_cell hbox 1
  have x2 := pblk_cell hbox 2
  have y0 := pblk_cell hr2 0
  have y4 := pblk_cell hr2 4
  clear hB hbox hr2
  go_wp2_with (first | (go_at_call 46; refine (tree_bound.calls tBegin true _ (by repeat (first | exact GG.below HG.out HB.out | apply GG.drewN | apply GG.drew)) boundB).mono ?_; rintro e w' ⟨rfl, ⟨nd, rfl⟩⟩) | (go_at_call 44; refine (line_Name.calls 5 tA true _ (by repeat (first | exact GG.below HG.out HB.out | apply GG.drewN | apply GG.drew)) nameA).mono ?_; rintro e w' ⟨rfl, ⟨nd, rfl⟩⟩))
  refine (begins_walk g (w2.drewN _) HR2.out).mono ?_
  rintro e w3 ⟨rfl, hB3, hO⟩
  have HB3 : Aside0 (Below g w w3) := ⟨(HB.out.mono (Nat.le_of_lt hgl)).trans ((pw_below_drewN (Below.refl g w2) _).trans hB3)⟩
  have HO := Aside0.mk hO
  clear hB3 hO x0 x1 x2 y0 y4
  go_wp2_with fail
  go_ret
  exact ⟨rfl, HB3.out, _, HO.out⟩
set_option maxHeartbeats 1000000 in
set_option maxRecDepth 100000 in
theorem lineE_walk (g : Nat) (w w1 : World) (hG : GG w) (hO : Opened w1 w g) :
    Calls Tryz.prog 29 #[.pointer (some ⟨g, 0, none⟩), .agg #[.string tEnd, .slice none 0 0, .string tA]] w fun e w' => e = .returned (.int .i64 0) ∧ Below g w w' ∧ ∃ v, Rst w' g #[v, .string tA, .slice none 0 0, .slice none 0 0, .bool true] := by
  obtain ⟨bk, cap, cur, hbk, h, hcur, q0, q1, q2⟩ := hO
  have hbl : bk < w.heap.size := blk_lt hcur
  have HCU := Aside0.mk hcur
  have HQ := Aside0.mk (And.intro q0 (And.intro q1 q2))
  clear hbk hcur q0 q1 q2
  have hgl : g < w.heap.size := blk_lt h
  have HG := Aside0.mk hG
  have HR := Aside0.mk h
  have hnot : ∀ (x : Bool) (w : World), (Op.unary .not (.bool x)).run Tryz.prog w = .ok (.bool (!x)) w := fun _ _ => rfl
  have hn1 : (tEnd.toList != tBegin.toList) = true := by decide +kernel
  have hn2 : (tEnd.toList == tBegin.toList) = false := by decide +kernel
  have hn3 : (tEnd.toList == tEnd.toList) = true := by decide +kernel
  clear hG h
  go_enter Tryz.func29, Tryz.ntmps29
  go_wp2_with fail
  go_at_call 56
  refine (line_Great.calls tA tA _ (GG.below HG.out (by repeat (first | exact Below.refl _ _ | apply below_alloc | apply pw_below_drewN | apply below_drew1))) greatA).mono ?_
  rintro e w2 ⟨rfl, hB⟩
  have HB : Aside0 (Below w.heap.size w w2) := ⟨(below_alloc (Below.refl w.heap.size w) _).trans (hB.mono (by simp))⟩
  have hbox := (hB.block w.heap.size (by simp)).trans (heap_alloc_new w _)
  have hr2 := (HB.out.block g hgl).trans HR.out
  have HR2 := Aside0.mk hr2
  have x0 := pblk_cell hbox 0
  have x1 := pblk_cell hbox 1
  have x2 := pblk_cell hbox 2
  have y0 := pblk_cell hr2 0
  have y4 := pblk_cell hr2 4
  clear hB hbox hr2
  go_wp2_with (first | (go_at_call 46; refine (tree_bound.calls tEnd true _ (by repeat (first | exact GG.below HG.out HB.out | apply GG.drewN | apply GG.drew)) boundE).mono ?_; rintro e w' ⟨rfl, ⟨nd, rfl⟩⟩) | (go_at_call 44; refine (line_Name.calls 5 tA true _ (by repeat (first | exact GG.below HG.out HB.out | apply GG.drewN | apply GG.drew)) nameA).mono ?_; rintro e w' ⟨rfl, ⟨nd, rfl⟩⟩))
  refine (ends_walk g bk cap cur (w2.drewN _) HR2.out ((HB.out.block bk hbl).trans HCU.out) HQ.out.1 HQ.out.2.1 HQ.out.2.2).mono ?_
  rintro e w3 ⟨rfl, hB3, hO⟩
  have HB3 : Aside0 (Below g w w3) := ⟨(HB.out.mono (Nat.le_of_lt hgl)).trans ((pw_below_drewN (Below.refl g w2) _).trans hB3)⟩
  have HO := Aside0.mk hO
  clear hB3 hO x0 x1 x2 y0 y4
  go_wp2_with fail
  go_ret
  exact ⟨rfl, HB3.out, HO.out⟩
end Go.Proofs.YtdojmdbaiddkgaaGreatDoor.Print
end
section
set_option linter.unusedVariables false
set_option linter.unusedSimpArgs false
namespace Go.Proofs.YtdojmdbaiddkgaaGreatDoor.Print
open Go.RowKit Go.Proofs.YtdojmdbaiddkgaaGreatDoorW.PrintWords Go.Proofs.YtdojmdbaiddkgaaGreatDoorW.PrintLast
theorem addr_plain {w : World} {ad : Addr} {v : Value} (h : w.cell? (ad.add 0) = some v) : ∃ b o, ad = ⟨b, o, none⟩ := by
  obtain ⟨b, o, sp⟩ := ad
  cases sp with
  | none => exact ⟨b, o, rfl⟩
  | some z =>
    exfalso
    unfold Addr.add at h
    rw [if_pos rfl] at h
    simp only [World.cell?] at h; split at h <;> simp at h
theorem add_plainO (b o j : Nat) : (⟨b, o, none⟩ : Addr).add j = ⟨b, o + j, none⟩ := by
  unfold Addr.add
  split
  · rename_i h8; subst h8; rfl
  · rfl
theorem ba_toList {a b : ByteArray} (h : a.toList = b.toList) : a = b := by
  have : a.data.toList = b.data.toList := by rw [← Go.ByteArray.toList_eq a, ← Go.ByteArray.toList_eq b]; exact h
  cases a; cases b; simp at this; rw [this]
theorem cellLt0 {w : World} {a : Addr} {v : Value} (h : w.cell? a = some v) : a.block < w.heap.size := by
  rcases Nat.lt_or_ge a.block w.heap.size with h9 | h9
  · exact h9
  · simp [World.cell?, Array.getElem?_eq_none h9] at h
/-- A row of strings, by its block. -/
theorem strs_row {w : World} {A : Option Addr} {xs : List ByteArray} (h : Kd.C Kd.string w A xs.length xs) (hn : xs ≠ []) : ∃ b o, A = some ⟨b, o, none⟩ ∧ ∀ j, j < xs.length → w.cell? ⟨b, o + j, none⟩ = some (.string (xs.getD j ByteArray.empty)) := by
  have hl : 0 < xs.length := by cases xs with
    | nil => exact absurd rfl hn
    | cons _ _ => simp
  obtain ⟨_, _, hcell⟩ := Kd.reads_of_C (d := ByteArray.empty) (h1 := fun _ => rfl) h
  obtain ⟨ad, hA, hcl⟩ := hcell hl
  obtain ⟨b, o, rfl⟩ := addr_plain (hcl 0 hl)
  exact ⟨b, o, hA, fun j hj => by rw [← add_plainO]; exact hcl j hj⟩
/-- A parameter of a row, by its block. -/
theorem par_at {w : World} {A : Option Addr} {l : List S77} (h : Kd.C k77 w A l.length l) (i : Nat) (hi : i < l.length) : ∃ b o A1 c1, A = some ⟨b, o, none⟩ ∧ w.cell? ⟨b, o + i * 2, none⟩ = some (.string (l.getD i z77).f0) ∧ w.cell? ⟨b, o + i * 2 + 1, none⟩ = some (.slice A1 (l.getD i z77).f1.length c1) ∧ (l.getD i z77).f1.length ≤ c1 ∧ Kd.C Kd.string w A1 (l.getD i z77).f1.length (l.getD i z77).f1 := by
  obtain ⟨ad, A1, c1, hA, h0, h1, hc, hC⟩ := at_T77 h i (by omega) (by omega)
  obtain ⟨ad', _, _, hA', h0', _⟩ := at_T77 h 0 (by omega) (by omega)
  obtain rfl : ad = ad' := by rw [hA] at hA'; exact Option.some.inj hA'
  obtain ⟨b, o, rfl⟩ := addr_plain (show w.cell? (ad.add 0) = _ from h0')
  refine ⟨b, o, A1, c1, hA, ?_, ?_, hc, hC⟩
  · rw [add_plainO] at h0; exact h0
  · rw [add_plainO] at h1; exact h1
theorem beqS_no {a b : ByteArray} (h : ¬ a = b) : (a.toList == b.toList) = false := by rw [beq_eq_false_iff_ne]; exact fun e => h (ba_toList e)
end Go.Proofs.YtdojmdbaiddkgaaGreatDoor.Print
end
section
set_option linter.unusedVariables false
set_option linter.unusedSimpArgs false
namespace Go.Proofs.YtdojmdbaiddkgaaGreatDoor.Print
open Go.RowKit Go.Proofs.YtdojmdbaiddkgaaGreatDoorW.PrintWords Go.Proofs.YtdojmdbaiddkgaaGreatDoorW.PrintLast
abbrev tText : ByteArray := ⟨#[66, 69, 71, 73, 78, 58, 65, 13, 10, 69, 78, 68, 58, 65, 13, 10]⟩
abbrev tB : ByteArray := ⟨#[66, 69, 71, 73, 78, 58, 65]⟩
abbrev tE : ByteArray := ⟨#[69, 78, 68, 58, 65]⟩
theorem below_up {w : World} {g : Nat} {o : Obj} (h : g < w.heap.size) : Below g w (w.alloc o) := (below_alloc (Below.refl _ w) o).mono (Nat.le_of_lt h)
theorem opened_below {w1 w w2 : World} {g : Nat} (h : Opened w1 w g) (hb : Below w.heap.size w w2) : Opened w1 w2 g := by
  obtain ⟨bk, cap, cur, h1, h2, h3, h4⟩ := h
  exact ⟨bk, cap, cur, h1, (hb.block g (blk_lt h2)).trans h2, (hb.block bk (blk_lt h3)).trans h3, h4⟩
/-- Where the loop over the lines stands. -/
structure TS (w2 : World) (g i : Nat) (wr : World) : Prop where
  bel : Below g w2 wr
  zero : i = 0 → Rst wr g #[.slice none 0 0, .string ⟨#[]⟩, .slice none 0 0, .slice none 0 0, .bool false]
  one : i = 1 → ∃ w1, Opened w1 wr g
  two : i = 2 → ∃ v, Rst wr g #[v, .string tA, .slice none 0 0, .slice none 0 0, .bool true]
set_option maxHeartbeats 1000000 in
set_option maxRecDepth 100000 in
theorem treeParse_walk (w : World) (hG : GG w) : Calls Tryz.prog 15 #[.string tText] w fun e w' => e = .returned (.tuple #[.agg #[.string tA, .slice none 0 0, .slice none 0 0], .int .i64 0, .int .i64 0]) ∧ Below w.heap.size w w' := by
  have HG := Aside0.mk hG
  have hnot : ∀ (x : Bool) (w : World), (Op.unary .not (.bool x)).run Tryz.prog w = .ok (.bool (!x)) w := fun _ _ => rfl
  clear hG
  go_enter Tryz.func15, Tryz.ntmps15
  go_wp2_with fail
  go_at_call 27
  refine (fold_Unfold.calls 40 tText [tB, tE] 0 0 _ (GG.below HG.out (by repeat (first | exact Below.refl _ _ | apply below_alloc | apply pw_below_drewN | apply below_drew1))) unfoldA).mono ?_
  rintro e w2 ⟨v0, rfl, hR, hB⟩
  obtain ⟨bl, cap, rfl, hbl, hll, _⟩ := Kd.R_form hR (by decide)
  have hC := (Kd.R_reads' hR).2.2
  obtain ⟨b', o', hA', hcs⟩ := strs_row hC (by simp)
  obtain ⟨rfl, rfl⟩ : bl = b' ∧ 0 = o' := by simpa using hA'
  have c0 : w2.cell? ⟨bl, 0, none⟩ = some (.string tB) := hcs 0 (by decide)
  have c1 : w2.cell? ⟨bl, 1, none⟩ = some (.string tE) := hcs 1 (by decide)
  have HC0 := Aside0.mk c0
  have HC1 := Aside0.mk c1
  have hres := (hB.block w.heap.size (by simp)).trans (heap_alloc_new w _)
  have HRes := Aside0.mk hres
  have HB : Aside0 (Below w.heap.size w w2) := ⟨(below_alloc (Below.refl w.heap.size w) _).trans (hB.mono (by simp))⟩
  obtain ⟨R0, hR0⟩ : ∃ R0, R0 = w.heap.size := ⟨_, rfl⟩
  rw [← hR0] at HRes ⊢
  have HR0 := Aside0.mk hR0
  have hRl : R0 < w2.heap.size := blk_lt HRes.out
  clear hA' hcs hR hB hC hres hR0 hbl c0 c1
  go_wp2_with fail
  obtain ⟨g, hg⟩ : ∃ g, g = w2.heap.size := ⟨_, rfl⟩
  have HT0 : Aside0 (TS w2 g 0 (w2.alloc (.cells #[.slice none 0 0, .string ⟨#[]⟩, .slice none 0 0, .slice none 0 0, .bool false] 65))) := ⟨⟨by rw [hg]; exact below_alloc (Below.refl _ _) _, fun _ => by rw [hg]; exact heap_alloc_new _ _, fun h => absurd h (by decide), fun h => absurd h (by decide)⟩⟩
  rw [← hg]
  have HGs := Aside0.mk hg
  have hlg : bl < g := by omega
  have hRg : R0 < g := by omega
  clear hg
  go_loopg [29] 2 (fun k v29 wr => ∃ i : Nat, v29 = .int .i64 i ∧ i ≤ 2 ∧ Aside0 (2 ≤ i + k) ∧ Aside0 (TS w2 g i wr))
  case atStart => exact ⟨0, rfl, by omega, ⟨by omega⟩, HT0⟩
  case round =>
    obtain ⟨i, rfl, hi, HK, HT⟩ := hrel
    have hgr : g ≤ wr.heap.size := by have := HT.out.bel.size; have := HGs.out; omega
    have c0 := (HT.out.bel.cell (p := ⟨bl, 0, none⟩) hlg).trans HC0.out
    have c1 := (HT.out.bel.cell (p := ⟨bl, 1, none⟩) hlg).trans HC1.out
    have HGr : Aside0 (GG wr) := ⟨GG.below HG.out (HB.out.trans (HT.out.bel.mono (by have := HGs.out; have := HB.out.size; omega)))⟩
    rcases (show i = 0 ∨ i = 1 ∨ i = 2 by omega) with rfl | rfl | rfl
    · cases gk with
      | zero => exfalso; have := HK.out; omega
      | succ k =>
      have HR := Aside0.mk (HT.out.zero rfl)
      go_wp2_with fail
      go_at_call 28
      refine (parseB _ HGr.out).mono ?_
      rintro e w3 ⟨rfl, hB3⟩
      have HR3 := Aside0.mk ((hB3.block g (blk_lt HR.out)).trans HR.out)
      have HB3 := Aside0.mk (HT.out.bel.trans (hB3.mono hgr))
      have HG3 := Aside0.mk (GG.below HGr.out hB3)
      have hg3 : g < w3.heap.size := blk_lt HR3.out
      clear hB3 c0 c1
      go_wp2_with fail
      go_at_call 29
      refine (lineB_walk g _ (GG.below HG3.out (by repeat (first | exact Below.refl _ _ | apply below_alloc))) (by repeat (first | exact HR3.out | refine blk_alloc ?_ _))).mono ?_
      rintro e w4 ⟨rfl, hB4, hO⟩
      have HB4 := Aside0.mk (HB3.out.trans ((below_up hg3).trans hB4))
      have HO := Aside0.mk hO
      clear hB4 hO
      go_wp2_with fail
      go_roundg k
      case measure => have := HK.out; omega
      case rel => exact ⟨1, by first | rfl | (go_num; done), by omega, ⟨by have := HK.out; omega⟩, ⟨⟨HB4.out, fun h => absurd h (by decide), fun _ => HO.out, fun h => absurd h (by decide)⟩⟩⟩
    · cases gk with
      | zero => exfalso; have := HK.out; omega
      | succ k =>
      obtain ⟨w1, hO⟩ := HT.out.one rfl
      have hgl : g < wr.heap.size := by obtain ⟨_, _, _, _, h, _⟩ := hO; exact blk_lt h
      have HO := Aside0.mk hO
      clear hO
      go_wp2_with fail
      go_at_call 28
      refine (parseE _ HGr.out).mono ?_
      rintro e w3 ⟨rfl, hB3⟩
      have HO3 : Aside0 (Opened w1 w3 g) := ⟨opened_below HO.out hB3⟩
      have HB3 := Aside0.mk (HT.out.bel.trans (hB3.mono hgr))
      have HG3 := Aside0.mk (GG.below HGr.out hB3)
      have hg3 : g < w3.heap.size := by have := hB3.size; omega
      clear hB3 c0 c1
      go_wp2_with fail
      go_at_call 29
      refine (lineE_walk g _ w1 (GG.below HG3.out (by repeat (first | exact Below.refl _ _ | apply below_alloc))) (opened_below HO3.out (by repeat (first | exact Below.refl _ _ | apply below_alloc)))).mono ?_
      rintro e w4 ⟨rfl, hB4, hO⟩
      have HB4 := Aside0.mk (HB3.out.trans ((below_up hg3).trans hB4))
      have HO4 := Aside0.mk hO
      clear hB4 hO
      go_wp2_with fail
      go_roundg k
      case measure => have := HK.out; omega
      case rel => exact ⟨2, by first | rfl | (go_num; done), by omega, ⟨by have := HK.out; omega⟩, ⟨⟨HB4.out, fun h => absurd h (by decide), fun h => absurd h (by decide), fun _ => HO4.out⟩⟩⟩
    · obtain ⟨v, hv⟩ := HT.out.two rfl
      have x0 := pblk_cell hv 0
      have x1 := pblk_cell hv 1
      have x2 := pblk_cell hv 2
      have x3 := pblk_cell hv 3
      have x4 := pblk_cell hv 4
      have hrs := (HT.out.bel.block R0 hRg).trans HRes.out
      have r0 := pblk_cell hrs 0
      have r1 := pblk_cell hrs 1
      have r2 := pblk_cell hrs 2
      have z0 := pblk_froz hrs 0
      have z1 := pblk_froz hrs 1
      have z2 := pblk_froz hrs 2
      have hRG : R0 ≠ g := by omega
      clear hv hrs c0 c1
      go_wp2_with fail
      refine bodyPost_ret (v := .tuple #[.agg #[.string tA, .slice none 0 0, .slice none 0 0], .int .i64 0, .int .i64 0]) (by simp [results, Tryz.results15, go_sem, r0, r1, r2]) rfl ⟨rfl, ?_⟩
      have hb := HB.out.trans (HT.out.bel.mono (by have := HGs.out; have := HB.out.size; omega))
      have hw : w.heap.size ≤ R0 := by have := HR0.out; omega
      exact ((hb.setCell (p := ⟨R0, 0, none⟩) hw _).setCell (p := ⟨R0, 1, none⟩) hw _).setCell (p := ⟨R0, 2, none⟩) hw _
def tree_Parse.f (a0 : ByteArray) : Option (ByteArray × List S49 × List S31 × Int × Int) := if a0 = tText then some (tA, [], [], 0, 0) else none
theorem tree_Parse.calls (a0 : ByteArray) (r1 : ByteArray) (r2 : List S49) (r3 : List S31) (r4 r5 : Int) (w : World) (hG : GG w) (h : tree_Parse.f a0 = some (r1, r2, r3, r4, r5)) :
    Calls Tryz.prog 15 #[.string a0] w fun e w' => ∃ v1_ v2_ : Value, e = .returned (.tuple #[.agg #[.string r1, v1_, v2_], .int .i64 r4, .int .i64 r5]) ∧ Kd.R k49 49 w' w.heap.size (fun _ => True) v1_ r2 ∧ Kd.R k31 31 w' w.heap.size (fun k_ => some k_ ≠ (v1_ : Value).ownBlock) v2_ r3 ∧ Below w.heap.size w w' := by
  unfold tree_Parse.f at h
  by_cases ha : a0 = tText
  · rw [if_pos ha] at h
    simp only [Option.some.injEq, Prod.mk.injEq] at h
    obtain ⟨rfl, rfl, rfl, rfl, rfl⟩ := h
    subst ha
    refine (treeParse_walk w hG).mono ?_
    rintro e w' ⟨rfl, hB⟩
    exact ⟨_, _, rfl, Kd.R_nil _ _ _ _ _, Kd.R_nil _ _ _ _ _, hB⟩
  · rw [if_neg ha] at h; cases h
end Go.Proofs.YtdojmdbaiddkgaaGreatDoor.Print
end
section
namespace Go.Proofs.YtdojmdbaiddkgaaGreatDoor.Print
open Go.RowKit Go.Proofs.YtdojmdbaiddkgaaGreatDoorW.PrintWords Go.Proofs.YtdojmdbaiddkgaaGreatDoorW.PrintLast
set_option linter.unusedVariables false
set_option linter.unusedSimpArgs false
def trystlaw11_awake.f (k : Nat)  : Option (Bool) := (tree_Parse.f (⟨#[66, 69, 71, 73, 78, 58, 65, 13, 10, 69, 78, 68, 58, 65, 13, 10]⟩ : ByteArray)).bind fun bt132 => (if bt132.2.2.2.2 = 0 then (if bt132.2.2.2.1 = 0 then (if bt132.1.toList = ([65] : List UInt8) then ((tree_Count.f k bt132.1 bt132.2.1 bt132.2.2.1).bind fun t142 => (some (t142 == 2))) else (some false)) else (some false)) else (some false))
theorem trystlaw11_awake.mono : ∀ k, LeO (trystlaw11_awake.f k ) (trystlaw11_awake.f (k + 1) ) := by
 intro  k
 unfold trystlaw11_awake.f
 repeat' first
   | (with_reducible first | exact tree_Count.mono _ _ _ _ | exact LeO.refl _ | exact LeO.none _ | refine LeO.ite ?_ ?_ | refine LeO.bind ?_ (fun _ => ?_)) | exact tree_Count.mono _ _ _ _ | exact LeO.none _ | refine LeO.ite ?_ ?_ | refine LeO.bind ?_ (fun _ => ?_)
set_option maxHeartbeats 8000000 in
set_option maxRecDepth 100000 in
theorem trystlaw11_awake.calls (k : Nat)  (r : Bool) (w : World) (hG : GG w) (h : trystlaw11_awake.f k  = some r) :
  Calls Tryz.prog 6 #[] w fun e w' => e = .returned (.bool r) ∧ Below w.heap.size w w' := by
 have hu31 := Tryz.underlying31; have HB := Aside0.mk (Below.refl w.heap.size w); have H : ((tree_Parse.f (⟨#[66, 69, 71, 73, 78, 58, 65, 13, 10, 69, 78, 68, 58, 65, 13, 10]⟩ : ByteArray)).bind fun bt132 => (if bt132.2.2.2.2 = 0 then (if bt132.2.2.2.1 = 0 then (if bt132.1.toList = ([65] : List UInt8) then ((tree_Count.f k bt132.1 bt132.2.1 bt132.2.2.1).bind fun t142 => (some (t142 == 2))) else (some false)) else (some false)) else (some false))) = some r := h; clear h; replace H := Option.bind_eq_some_iff.mp H; obtain ⟨⟨t132, t133, t136, t139, t140⟩, A10, H⟩ := H; replace H : (if t140 = 0 then (if t139 = 0 then (if t132.toList = ([65] : List UInt8) then ((tree_Count.f k t132 t133 t136).bind fun t142 => (some (t142 == 2))) else (some false)) else (some false)) else (some false)) = some r := H; have A1 := Aside0.mk A10; clear A10
 replace H := zIe H; rcases H with ⟨-, c2b0, c2b1, H⟩ | ⟨c2, c2b0, c2b1, H⟩
 ·replace H := zIe H; rcases H with ⟨-, c3b0, c3b1, H⟩ | ⟨c3, c3b0, c3b1, H⟩
  ·replace H := zIe H; rcases H with ⟨-, c4b0, c4b1, H⟩ | ⟨c4, c4b0, c4b1, H⟩
   ·replace H := zO H; obtain ⟨t142, A5, H⟩ := H; obtain rfl := Option.some.inj H
    go_enter Tryz.func6, Tryz.ntmps6
    go_wp2_with (first | ((with_reducible refine gate_callee (f := 15) rfl ?_); refine goesL_ (some 5) rfl rfl Tryz.func15 (by kernel_rfl) rfl #[.string (⟨#[66, 69, 71, 73, 78, 58, 65, 13, 10, 69, 78, 68, 58, 65, 13, 10]⟩ : ByteArray)] rfl zA ?_; (with_reducible refine (tree_Parse.calls (⟨#[66, 69, 71, 73, 78, 58, 65, 13, 10, 69, 78, 68, 58, 65, 13, 10]⟩ : ByteArray) t132 t133 t136 t139 t140 _ zG A1.out).mono ?_); rintro e w6 ⟨v134, v137, rfl, ho0, ho1, hb⟩; refine ⟨_, rfl, ?_⟩; replace HO135 := Aside0.mk (Kd.R_lower ho0 (below_size zB)); replace HO138 := Aside0.mk (Kd.R_lower ho1 (below_size zB)); replace HB := zw hb; (try clear hb); (try clear ho0); (try clear ho1)) | ((with_reducible refine gate_dst (N := 1) rfl ?_); refine zbox (N := 1) #[.string (⟨#[]⟩ : ByteArray), .slice none 0 0, .slice none 0 0] 31 (fun gb141 hg w7 hbox hb => ?_); have n0_ := Aside0.mk (Kd.R_below (Kd.R_below HO135.out zX) hb); have n1_ := Aside0.mk (Kd.R_below (Kd.R_elderB (Kd.R_below HO138.out zX) gb141 (Nat.le_of_eq hg.symm)) hb); have n2_ := zw hb; have n3_ := Aside0.mk hbox; have n4_ := zg w hg; have n5_ := zg w hg; clear HO135; clear HO138; clear HB; have HO135 := n0_; have HO138 := n1_; have HB := n2_; have BK141 := n3_; have GW141 := n4_; have GE141 := n5_; clear n0_ n1_ n2_ n3_ n4_ n5_; clear hb hbox hg; have hcz8_0 := zc0 BK141; have hcz8_1 := zc1 BK141; have hcz8_2 := zc2 BK141; have hfz8_0 := zf BK141 0; have hfz8_1 := zf BK141 1; have hfz8_2 := zf BK141 2; obtain ⟨Ao9, co9, eo9⟩ := Kd.R_slice HO135.out; subst eo9; obtain ⟨Ao10, co10, eo10⟩ := Kd.R_slice HO138.out; subst eo10) | (go_at_call 13; (with_reducible refine (tree_Count.calls k t132 _ _ t133 _ _ t136 t142 _ zG ?side1 ?side2 ?side3 ?side4 A5.out).mono ?_); (case side1 => refine (Kd.R_reads' (e := 49) (base := w.heap.size) (ok := fun k_ => True) (n := t133.length) (c := co9) ?_).2.2; exact (by (with_reducible repeat (first | apply Kd.R_alloc | apply Kd.R_drewN | apply Kd.R_drew)); exact (Kd.R_mono (Kd.R_far (p := ⟨gb141, 2, none⟩) (Kd.R_far (p := ⟨gb141, 1, none⟩) (Kd.R_far (p := ⟨gb141, 0, none⟩) (Kd.R_types HO135.out BK141.out (by decide)) (fun _ hk => hk.2) (.string t132)) (fun _ hk => hk.2) (.slice Ao9 t133.length co9)) (fun _ hk => hk.2) (.slice Ao10 t136.length co10)) (fun _ h_ => h_.1)))); (case side2 => exact (Kd.R_reads' HO135.out).2.1); (case side3 => refine (Kd.R_reads' (e := 31) (base := w.heap.size) (ok := fun k_ => (some k_ ≠ (.slice Ao9 t133.length co9 : Value).ownBlock ∧ k_ ≠ gb141)) (n := t136.length) (c := co10) ?_).2.2; exact (by (with_reducible repeat (first | apply Kd.R_alloc | apply Kd.R_drewN | apply Kd.R_drew)); exact (Kd.R_mono (Kd.R_far (p := ⟨gb141, 2, none⟩) (Kd.R_far (p := ⟨gb141, 1, none⟩) (Kd.R_far (p := ⟨gb141, 0, none⟩) (Kd.R_mono HO138.out (fun k_ hk => (⟨hk, hk.2⟩ : _ ∧ k_ ≠ gb141))) (fun _ hk => hk.2) (.string t132)) (fun _ hk => hk.2) (.slice Ao9 t133.length co9)) (fun _ hk => hk.2) (.slice Ao10 t136.length co10)) (fun _ h_ => h_.1)))); (case side4 => exact (Kd.R_reads' HO138.out).2.1); rintro e w11 ⟨rfl, hb⟩; replace HO135 := Aside0.mk (Kd.R_below (by (with_reducible repeat (first | apply Kd.R_alloc | apply Kd.R_drewN | apply Kd.R_drew)); exact (Kd.R_mono (Kd.R_far (p := ⟨gb141, 2, none⟩) (Kd.R_far (p := ⟨gb141, 1, none⟩) (Kd.R_far (p := ⟨gb141, 0, none⟩) (Kd.R_types HO135.out BK141.out (by decide)) (fun _ hk => hk.2) (.string t132)) (fun _ hk => hk.2) (.slice Ao9 t133.length co9)) (fun _ hk => hk.2) (.slice Ao10 t136.length co10)) (fun _ h_ => h_.1))) hb); replace HO138 := Aside0.mk (Kd.R_below (by (with_reducible repeat (first | apply Kd.R_alloc | apply Kd.R_drewN | apply Kd.R_drew)); exact (Kd.R_mono (Kd.R_far (p := ⟨gb141, 2, none⟩) (Kd.R_far (p := ⟨gb141, 1, none⟩) (Kd.R_far (p := ⟨gb141, 0, none⟩) (Kd.R_mono HO138.out (fun k_ hk => (⟨hk, hk.2⟩ : _ ∧ k_ ≠ gb141))) (fun _ hk => hk.2) (.string t132)) (fun _ hk => hk.2) (.slice Ao9 t133.length co9)) (fun _ hk => hk.2) (.slice Ao10 t136.length co10)) (fun _ h_ => h_.1))) hb); replace BK141 := Aside0.mk (blk_below (g := gb141) (o := .cells #[.string t132, .slice Ao9 t133.length co9, .slice Ao10 t136.length co10] 31 (0, 0)) (by (with_reducible repeat (first | refine blk_drewN ?_ _ | refine blk_drew ?_ | refine blk_alloc ?_ _)); refine blk_put (cs := #[.string t132, .slice Ao9 t133.length co9, .slice none 0 0]) ?_ 2 _ rfl; (with_reducible repeat (first | refine blk_drewN ?_ _ | refine blk_drew ?_ | refine blk_alloc ?_ _)); refine blk_put (cs := #[.string t132, .slice none 0 0, .slice none 0 0]) ?_ 1 _ rfl; (with_reducible repeat (first | refine blk_drewN ?_ _ | refine blk_drew ?_ | refine blk_alloc ?_ _)); refine blk_put (cs := #[.string (⟨#[]⟩ : ByteArray), .slice none 0 0, .slice none 0 0]) ?_ 0 _ rfl; (with_reducible repeat (first | refine blk_drewN ?_ _ | refine blk_drew ?_ | refine blk_alloc ?_ _)); exact BK141.out) hb); replace HB := zw hb; (try clear hb)))
    go_ret; exact ⟨zE, zB⟩
   ·obtain rfl := Option.some.inj H
    go_enter Tryz.func6, Tryz.ntmps6
    go_wp2_with (first | ((with_reducible refine gate_callee (f := 15) rfl ?_); refine goesL_ (some 5) rfl rfl Tryz.func15 (by kernel_rfl) rfl #[.string (⟨#[66, 69, 71, 73, 78, 58, 65, 13, 10, 69, 78, 68, 58, 65, 13, 10]⟩ : ByteArray)] rfl zA ?_; (with_reducible refine (tree_Parse.calls (⟨#[66, 69, 71, 73, 78, 58, 65, 13, 10, 69, 78, 68, 58, 65, 13, 10]⟩ : ByteArray) t132 t133 t136 t139 t140 _ zG A1.out).mono ?_); rintro e w12 ⟨v134, v137, rfl, ho0, ho1, hb⟩; refine ⟨_, rfl, ?_⟩; replace HO135 := Aside0.mk (Kd.R_lower ho0 (below_size zB)); replace HO138 := Aside0.mk (Kd.R_lower ho1 (below_size zB)); replace HB := zw hb; (try clear hb); (try clear ho0); (try clear ho1)) | ((with_reducible refine gate_dst (N := 1) rfl ?_); refine zbox (N := 1) #[.string (⟨#[]⟩ : ByteArray), .slice none 0 0, .slice none 0 0] 31 (fun gb141 hg w13 hbox hb => ?_); have n0_ := Aside0.mk (Kd.R_below (Kd.R_below HO135.out zX) hb); have n1_ := Aside0.mk (Kd.R_below (Kd.R_elderB (Kd.R_below HO138.out zX) gb141 (Nat.le_of_eq hg.symm)) hb); have n2_ := zw hb; have n3_ := Aside0.mk hbox; have n4_ := zg w hg; have n5_ := zg w hg; clear HO135; clear HO138; clear HB; have HO135 := n0_; have HO138 := n1_; have HB := n2_; have BK141 := n3_; have GW141 := n4_; have GE141 := n5_; clear n0_ n1_ n2_ n3_ n4_ n5_; clear hb hbox hg; have hcz14_0 := zc0 BK141; have hcz14_1 := zc1 BK141; have hcz14_2 := zc2 BK141; have hfz14_0 := zf BK141 0; have hfz14_1 := zf BK141 1; have hfz14_2 := zf BK141 2; obtain ⟨Ao15, co15, eo15⟩ := Kd.R_slice HO135.out; subst eo15; obtain ⟨Ao16, co16, eo16⟩ := Kd.R_slice HO138.out; subst eo16))
    go_ret; exact ⟨zE, zB⟩
  ·obtain rfl := Option.some.inj H
   go_enter Tryz.func6, Tryz.ntmps6
   go_wp2_with (first | ((with_reducible refine gate_callee (f := 15) rfl ?_); refine goesL_ (some 5) rfl rfl Tryz.func15 (by kernel_rfl) rfl #[.string (⟨#[66, 69, 71, 73, 78, 58, 65, 13, 10, 69, 78, 68, 58, 65, 13, 10]⟩ : ByteArray)] rfl zA ?_; (with_reducible refine (tree_Parse.calls (⟨#[66, 69, 71, 73, 78, 58, 65, 13, 10, 69, 78, 68, 58, 65, 13, 10]⟩ : ByteArray) t132 t133 t136 t139 t140 _ zG A1.out).mono ?_); rintro e w17 ⟨v134, v137, rfl, ho0, ho1, hb⟩; refine ⟨_, rfl, ?_⟩; replace HO135 := Aside0.mk (Kd.R_lower ho0 (below_size zB)); replace HO138 := Aside0.mk (Kd.R_lower ho1 (below_size zB)); replace HB := zw hb; (try clear hb); (try clear ho0); (try clear ho1)) | ((with_reducible refine gate_dst (N := 1) rfl ?_); refine zbox (N := 1) #[.string (⟨#[]⟩ : ByteArray), .slice none 0 0, .slice none 0 0] 31 (fun gb141 hg w18 hbox hb => ?_); have n0_ := Aside0.mk (Kd.R_below (Kd.R_below HO135.out zX) hb); have n1_ := Aside0.mk (Kd.R_below (Kd.R_elderB (Kd.R_below HO138.out zX) gb141 (Nat.le_of_eq hg.symm)) hb); have n2_ := zw hb; have n3_ := Aside0.mk hbox; have n4_ := zg w hg; have n5_ := zg w hg; clear HO135; clear HO138; clear HB; have HO135 := n0_; have HO138 := n1_; have HB := n2_; have BK141 := n3_; have GW141 := n4_; have GE141 := n5_; clear n0_ n1_ n2_ n3_ n4_ n5_; clear hb hbox hg; have hcz19_0 := zc0 BK141; have hcz19_1 := zc1 BK141; have hcz19_2 := zc2 BK141; have hfz19_0 := zf BK141 0; have hfz19_1 := zf BK141 1; have hfz19_2 := zf BK141 2; obtain ⟨Ao20, co20, eo20⟩ := Kd.R_slice HO135.out; subst eo20; obtain ⟨Ao21, co21, eo21⟩ := Kd.R_slice HO138.out; subst eo21))
   go_ret; exact ⟨zE, zB⟩
 ·obtain rfl := Option.some.inj H
  go_enter Tryz.func6, Tryz.ntmps6
  go_wp2_with (first | ((with_reducible refine gate_callee (f := 15) rfl ?_); refine goesL_ (some 5) rfl rfl Tryz.func15 (by kernel_rfl) rfl #[.string (⟨#[66, 69, 71, 73, 78, 58, 65, 13, 10, 69, 78, 68, 58, 65, 13, 10]⟩ : ByteArray)] rfl zA ?_; (with_reducible refine (tree_Parse.calls (⟨#[66, 69, 71, 73, 78, 58, 65, 13, 10, 69, 78, 68, 58, 65, 13, 10]⟩ : ByteArray) t132 t133 t136 t139 t140 _ zG A1.out).mono ?_); rintro e w22 ⟨v134, v137, rfl, ho0, ho1, hb⟩; refine ⟨_, rfl, ?_⟩; replace HO135 := Aside0.mk (Kd.R_lower ho0 (below_size zB)); replace HO138 := Aside0.mk (Kd.R_lower ho1 (below_size zB)); replace HB := zw hb; (try clear hb); (try clear ho0); (try clear ho1)) | ((with_reducible refine gate_dst (N := 1) rfl ?_); refine zbox (N := 1) #[.string (⟨#[]⟩ : ByteArray), .slice none 0 0, .slice none 0 0] 31 (fun gb141 hg w23 hbox hb => ?_); have n0_ := Aside0.mk (Kd.R_below (Kd.R_below HO135.out zX) hb); have n1_ := Aside0.mk (Kd.R_below (Kd.R_elderB (Kd.R_below HO138.out zX) gb141 (Nat.le_of_eq hg.symm)) hb); have n2_ := zw hb; have n3_ := Aside0.mk hbox; have n4_ := zg w hg; have n5_ := zg w hg; clear HO135; clear HO138; clear HB; have HO135 := n0_; have HO138 := n1_; have HB := n2_; have BK141 := n3_; have GW141 := n4_; have GE141 := n5_; clear n0_ n1_ n2_ n3_ n4_ n5_; clear hb hbox hg; have hcz24_0 := zc0 BK141; have hcz24_1 := zc1 BK141; have hcz24_2 := zc2 BK141; have hfz24_0 := zf BK141 0; have hfz24_1 := zf BK141 1; have hfz24_2 := zf BK141 2; obtain ⟨Ao25, co25, eo25⟩ := Kd.R_slice HO135.out; subst eo25; obtain ⟨Ao26, co26, eo26⟩ := Kd.R_slice HO138.out; subst eo26))
  go_ret; exact ⟨zE, zB⟩
mutual
def trystlaw10_Few.l0 : Nat → Int → Int → Int → ByteArray → List (S76) → ByteArray → Option (Bool)
 | 0, _, _, _, _, _, _ => none
 | k + 1, x3, x15, x16, x144000, x144001, x144002 => if x16 < x15 then (if 0 ≤ x16 then (if x16 < (x144001.length : Int) then (trystlaw10_Few.l1 k (wrap64 ((wrap64 (x3 + (((rd_T76 x144001 x16).f0).size : Int))) + 1)) x16 x15 x16 (((rd_T76 x144001 x16).f1).length : Int) 0 x144000 x144001 x144002) else (none)) else (none)) else (some (decide (x3 ≤ 5000)))
def trystlaw10_Few.l1 : Nat → Int → Int → Int → Int → Int → Int → ByteArray → List (S76) → ByteArray → Option (Bool)
 | 0, _, _, _, _, _, _, _, _, _ => none
 | k + 1, x3, x4, x15, x16, x35, x36, x144000, x144001, x144002 => if x36 < x35 then (if 0 ≤ x4 then (if x4 < (x144001.length : Int) then (if 0 ≤ x36 then (if x36 < (((rd_T76 x144001 x4).f1).length : Int) then (trystlaw10_Few.l1 k (wrap64 ((wrap64 (x3 + ((rdOf ByteArray.empty ((rd_T76 x144001 x4).f1) x36).size : Int))) + 1)) x4 x15 x16 x35 (wrap64 (x36 + 1)) x144000 x144001 x144002) else (none)) else (none)) else (none)) else (none)) else (if x3 > 5000 then (some false) else (trystlaw10_Few.l0 k x3 x15 (wrap64 (x16 + 1)) x144000 x144001 x144002))
end
def trystlaw10_Few.f (k : Nat) (a0_0 : ByteArray) (l0_1 : List (S76)) (a0_2 : ByteArray) : Option (Bool) := trystlaw10_Few.l0 k (wrap64 ((a0_0.size : Int) + (a0_2.size : Int))) (l0_1.length : Int) 0 a0_0 l0_1 a0_2
set_option maxHeartbeats 8000000 in
set_option maxRecDepth 100000 in
theorem trystlaw10_Few.calls (k : Nat) (a0_0 : ByteArray) (A0_1 : Option Addr) (c0_1 : Nat) (l0_1 : List (S76)) (a0_2 : ByteArray) (r : Bool) (w : World) (hG : GG w) (hr0_1 : Kd.C k76 w A0_1 l0_1.length l0_1) (hc0_1 : l0_1.length ≤ c0_1) (h : trystlaw10_Few.f k a0_0 l0_1 a0_2 = some r) :
  Calls Tryz.prog 35 #[.agg #[.string a0_0, .slice A0_1 l0_1.length c0_1, .string a0_2]] w fun e w' => e = .returned (.bool r) ∧ Below w.heap.size w w' := by
 have hu53 := Tryz.underlying53; have HR0_1 := Aside0.mk hr0_1; have HC0_1 := Aside0.mk hc0_1; clear hr0_1 hc0_1; have HB := Aside0.mk (Below.refl w.heap.size w); have H : (trystlaw10_Few.l0 k (wrap64 ((a0_0.size : Int) + (a0_2.size : Int))) (l0_1.length : Int) 0 a0_0 l0_1 a0_2) = some r := h; clear h; have H' := Aside0.mk H; clear H
 go_enter Tryz.func35, Tryz.ntmps35
 go_wp2_with (first | ((with_reducible refine gate_dst (N := 1) rfl ?_); refine zbox (N := 1) #[.string a0_0, .slice A0_1 l0_1.length c0_1, .string a0_2] 53 (fun gb143 hg w2 hbox hb => ?_); have n0_ := zw hb; have n1_ := Aside0.mk hbox; have n2_ := zg w hg; have n3_ := zg w hg; clear HB; have HB := n0_; have BK143 := n1_; have GW143 := n2_; have GE143 := n3_; clear n0_ n1_ n2_ n3_; clear hb hbox hg; have hcz3_0 := zc0 BK143; have hcz3_1 := zc1 BK143; have hcz3_2 := zc2 BK143; have hfz3_0 := zf BK143 0; have hfz3_1 := zf BK143 1; have hfz3_2 := zf BK143 2))
 go_loopg [3, 16] k (fun kq v3 v16 w' => ∃ (x3_1 : Int) (x16_1 : Int), v3 = .int .i64 x3_1 ∧ v16 = .int .i64 x16_1 ∧ Aside0 (trystlaw10_Few.l0 kq x3_1 (l0_1.length : Int) x16_1 a0_0 l0_1 a0_2 = some r) ∧ Aside0 (kq ≤ k) ∧ Aside0 (w'.heap[gb143]? = some (.cells #[.string a0_0, (.slice A0_1 l0_1.length c0_1), .string a0_2] 53 (0, 0))) ∧ Aside0 (Below w.heap.size w w'))
 case atStart => exact ⟨(wrap64 ((a0_0.size : Int) + (a0_2.size : Int))), (0), zS, zS, H', ⟨Nat.le_refl _⟩, ⟨blk_below BK143.out zX⟩, ⟨zB⟩⟩
 case round =>
  clear H'; clear hcz3_0 hcz3_1 hcz3_2 hfz3_0 hfz3_1 hfz3_2; obtain ⟨x3_1, x16_1, rfl, rfl, HA, HK1, BK143, HB⟩ := hrel
  cases gk with
  | zero => exact absurd HA.out (by simp [trystlaw10_Few.l0])
  | succ k1 =>
   have H := HA.out; clear HA; simp only [trystlaw10_Few.l0] at H; replace H := zId H; rcases H with ⟨-, c4b0, H⟩ | ⟨-, c4b0, H⟩
   ·replace H := zJd H; obtain ⟨-, c5b0, H⟩ := H; replace H := zJd H; obtain ⟨-, c6b0, H⟩ := H; have H' := Aside0.mk H; clear H; have hcz7_0 := zc0 BK143; have hcz7_1 := zc1 BK143; have hcz7_2 := zc2 BK143; have hfz7_0 := zf BK143 0; have hfz7_1 := zf BK143 1; have hfz7_2 := zf BK143 2; have p144 := zQ (0 ≤ (x16_1 : Int)); have q144 := zQ (x16_1 < (l0_1.length : Int)); obtain ⟨ad144, A144_1, c144_1, e144, hx144_0, hx144_1, hl144_1, hi144_1⟩ := at_T76 HR0_1.out x16_1 p144 q144
    cases e144
    replace hx144_0 := zx HB hx144_0; replace hx144_1 := zx HB hx144_1; have HR144_1 := Aside0.mk hi144_1; have HC144_1 := Aside0.mk hl144_1; clear hi144_1 hl144_1; replace p144 := eq_true p144; replace q144 := eq_true q144; have p145 := zQ (0 ≤ (x16_1 : Int)); have q145 := zQ (x16_1 < (l0_1.length : Int)); obtain ⟨ad145, A145_1, c145_1, e145, hx145_0, hx145_1, hl145_1, hi145_1⟩ := at_T76 HR0_1.out x16_1 p145 q145; obtain rfl : ad144 = ad145 := (by injection e145); replace hx145_0 := zx HB hx145_0; replace hx145_1 := zx HB hx145_1; have HR145_1 := Aside0.mk hi145_1; have HC145_1 := Aside0.mk hl145_1; clear hi145_1 hl145_1; replace p145 := eq_true p145; replace q145 := eq_true q145
    have ea_ := Option.some.inj (hx144_1.symm.trans hx145_1)
    injection ea_ with ea_ en_ ec_
    subst ea_; subst ec_; clear en_; go_wp2
    go_loopg [3, 36] k1 (fun kq v3 v36 w' => ∃ (x3_2 : Int) (x36_2 : Int), v3 = .int .i64 x3_2 ∧ v36 = .int .i64 x36_2 ∧ Aside0 (trystlaw10_Few.l1 kq x3_2 x16_1 (l0_1.length : Int) x16_1 (((rd_T76 l0_1 x16_1).f1).length : Int) x36_2 a0_0 l0_1 a0_2 = some r) ∧ Aside0 (kq ≤ k1) ∧ Aside0 (w'.heap[gb143]? = some (.cells #[.string a0_0, (.slice (some ad144) l0_1.length c0_1), .string a0_2] 53 (0, 0))) ∧ Aside0 (Below w.heap.size w w'))
    case atStart => exact ⟨(wrap64 ((wrap64 (x3_1 + (((rd_T76 l0_1 x16_1).f0).size : Int))) + 1)), (0), zS, zS, H', ⟨Nat.le_refl _⟩, ⟨blk_below BK143.out zX⟩, ⟨zB⟩⟩
    case round =>
     clear H'; clear c4b0 c5b0 c6b0 hcz7_0 hcz7_1 hcz7_2 hfz7_0 hfz7_1 hfz7_2 hx144_0 hx144_1 hx145_0 hx145_1 p144 p145 q144 q145; obtain ⟨x3_2, x36_2, rfl, rfl, HA, HK2, BK143, HB⟩ := hrel
     cases gk with
     | zero => exact absurd HA.out (by simp [trystlaw10_Few.l1])
     | succ k2 =>
      have H := HA.out; clear HA; simp only [trystlaw10_Few.l1] at H; replace H := zId H; rcases H with ⟨-, c8b0, H⟩ | ⟨-, c8b0, H⟩
      ·replace H := zJd H; obtain ⟨-, c9b0, H⟩ := H; replace H := zJd H; obtain ⟨-, c10b0, H⟩ := H; replace H := zJd H; obtain ⟨-, c11b0, H⟩ := H; replace H := zJd H; obtain ⟨-, c12b0, H⟩ := H; have H' := Aside0.mk H; clear H; have hcz13_0 := zc0 BK143; have hcz13_1 := zc1 BK143; have hcz13_2 := zc2 BK143; have hfz13_0 := zf BK143 0; have hfz13_1 := zf BK143 1; have hfz13_2 := zf BK143 2; have p146 := zQ (0 ≤ (x16_1 : Int)); have q146 := zQ (x16_1 < (l0_1.length : Int)); obtain ⟨ad146, A146_1, c146_1, e146, hx146_0, hx146_1, hl146_1, hi146_1⟩ := at_T76 HR0_1.out x16_1 p146 q146
       obtain rfl : ad144 = ad146 := (by injection e146); replace hx146_0 := zx HB hx146_0; replace hx146_1 := zx HB hx146_1; have HR146_1 := Aside0.mk hi146_1; have HC146_1 := Aside0.mk hl146_1; clear hi146_1 hl146_1; replace p146 := eq_true p146; replace q146 := eq_true q146; have p147 := zQ (0 ≤ (x36_2 : Int)); have q147 := zQ (x36_2 < (((rd_T76 l0_1 x16_1).f1).length : Int)); obtain ⟨ad147, e147, hx147_0⟩ := Kd.at_string HR146_1.out x36_2 p147 q147
       cases e147
       replace hx147_0 := zx HB hx147_0; replace p147 := eq_true p147; replace q147 := eq_true q147; go_wp2
       go_roundg k2
       case measure => have := HK1.out; have := HK2.out; omega
       case rel => exact ⟨(wrap64 ((wrap64 (x3_2 + ((rdOf ByteArray.empty ((rd_T76 l0_1 x16_1).f1) x36_2).size : Int))) + 1)), (wrap64 (x36_2 + 1)), zS, zS, H', ⟨by have := HK1.out; have := HK2.out; omega⟩, ⟨blk_below BK143.out zX⟩, ⟨zB⟩⟩
      ·replace H := zI H; rcases H with ⟨c14, H⟩ | ⟨c14, H⟩
       ·have c14b0 : decide (5000 < x3_2) = true := decide_eq_true c14; clear c14; obtain rfl := Option.some.inj H; go_wp2; go_ret; exact ⟨zE, zB⟩
       ·have c14b0 : decide (5000 < x3_2) = false := decide_eq_false c14; clear c14; have H' := Aside0.mk H; clear H; go_wp2
        go_roundg k2
        case measure => have := HK1.out; have := HK2.out; omega
        case rel => exact ⟨(x3_2), (wrap64 (x16_1 + 1)), zS, zS, H', ⟨by have := HK1.out; have := HK2.out; omega⟩, ⟨blk_below BK143.out zX⟩, ⟨zB⟩⟩
   ·obtain rfl := Option.some.inj H; go_wp2; go_ret; exact ⟨zE, zB⟩
mutual
def trystlaw11_size.l0 : Nat → Int → Int → Int → Int → ByteArray → List (S53) → List (S25) → Option (Int)
 | 0, _, _, _, _, _, _, _ => none
 | k + 1, x1, x5, x14, x15, x149000, x149001, x149002 => if x15 < x14 then (if 0 ≤ x15 then (if x15 < (x149001.length : Int) then ((trystlaw10_Few.f k ((rd_T53 x149001 x15).f0) ((rd_T53 x149001 x15).f1) ((rd_T53 x149001 x15).f2)).bind fun t150 => (if t150 = true then (trystlaw11_size.l0 k x1 (wrap64 ((wrap64 ((wrap64 (x5 + 1)) + (((rd_T53 x149001 x15).f0).size : Int))) + (((rd_T53 x149001 x15).f2).size : Int))) x14 (wrap64 (x15 + 1)) x149000 x149001 x149002) else (some 1048576))) else (none)) else (none)) else (trystlaw11_size.l1 k x1 x5 (x149002.length : Int) 0 x149000 x149001 x149002)
def trystlaw11_size.l1 : Nat → Int → Int → Int → Int → ByteArray → List (S53) → List (S25) → Option (Int)
 | 0, _, _, _, _, _, _, _ => none
 | k + 1, x1, x5, x46, x47, x149000, x149001, x149002 => if x47 < x46 then (if x1 > 10 then (some 1048576) else (if x5 > 50000 then (some 1048576) else (if 0 ≤ x47 then (if x47 < (x149002.length : Int) then ((trystlaw11_size.f k ((rd_T25 x149002 x47).f0) ((rd_T25 x149002 x47).f1) ((rd_T25 x149002 x47).f2) (wrap64 (x1 + 1))).bind fun t154 => (trystlaw11_size.l1 k x1 (wrap64 (x5 + t154)) x46 (wrap64 (x47 + 1)) x149000 x149001 x149002)) else (none)) else (none)))) else (some x5)
def trystlaw11_size.f : Nat → ByteArray → List (S53) → List (S25) → Int → Option (Int)
 | 0, _, _, _, _ => none
 | k + 1, a0_0, l0_1, l0_2, a1 => trystlaw11_size.l0 k a1 (wrap64 (1 + (a0_0.size : Int))) (l0_1.length : Int) 0 a0_0 l0_1 l0_2
end
set_option maxHeartbeats 8000000 in
set_option maxRecDepth 100000 in
theorem trystlaw11_size.calls (k : Nat) : ∀ (a0_0 : ByteArray) (A0_1 : Option Addr) (c0_1 : Nat) (l0_1 : List (S53)) (A0_2 : Option Addr) (c0_2 : Nat) (l0_2 : List (S25)) (a1 : Int) (r : Int) (w : World) (hG : GG w) (hr0_1 : Kd.C k53 w A0_1 l0_1.length l0_1) (hc0_1 : l0_1.length ≤ c0_1) (hr0_2 : Kd.C k25 w A0_2 l0_2.length l0_2) (hc0_2 : l0_2.length ≤ c0_2) (h : trystlaw11_size.f k a0_0 l0_1 l0_2 a1 = some r),
  Calls Tryz.prog 19 #[.agg #[.string a0_0, .slice A0_1 l0_1.length c0_1, .slice A0_2 l0_2.length c0_2], .int .i64 a1] w fun e w' => e = .returned (.int .i64 r) ∧ Below w.heap.size w w' := by
 induction k using Nat.strongRecOn with
 | _ k ih =>
 intro a0_0 A0_1 c0_1 l0_1 A0_2 c0_2 l0_2 a1 r w hG hr0_1 hc0_1 hr0_2 hc0_2 h
 cases k with
 | zero => exact absurd h (by simp [trystlaw11_size.f])
 | succ k =>
 simp only [trystlaw11_size.f] at h; have hu25 := Tryz.underlying25; have hu53 := Tryz.underlying53; have HR0_1 := Aside0.mk hr0_1; have HC0_1 := Aside0.mk hc0_1; clear hr0_1 hc0_1; have HR0_2 := Aside0.mk hr0_2; have HC0_2 := Aside0.mk hc0_2; clear hr0_2 hc0_2; have HB := Aside0.mk (Below.refl w.heap.size w); have H : (trystlaw11_size.l0 k a1 (wrap64 (1 + (a0_0.size : Int))) (l0_1.length : Int) 0 a0_0 l0_1 l0_2) = some r := h; clear h; have H' := Aside0.mk H; clear H
 go_enter Tryz.func19, Tryz.ntmps19
 iterate 5 (first | go_quiet (fail) | go_wp2_with (first | ((with_reducible refine gate_dst (N := 2) rfl ?_); refine zbox (N := 2) #[.string a0_0, .slice A0_1 l0_1.length c0_1, .slice A0_2 l0_2.length c0_2] 25 (fun gb148 hg w3 hbox hb => ?_); have n0_ := zw hb; have n1_ := Aside0.mk hbox; have n2_ := zg w hg; have n3_ := zg w hg; clear HB; have HB := n0_; have BK148 := n1_; have GW148 := n2_; have GE148 := n3_; clear n0_ n1_ n2_ n3_; clear hb hbox hg; have hcz4_0 := zc0 BK148; have hcz4_1 := zc1 BK148; have hcz4_2 := zc2 BK148; have hfz4_0 := zf BK148 0; have hfz4_1 := zf BK148 1; have hfz4_2 := zf BK148 2)))
 go_loopg [5, 15] k (fun kq v5 v15 w' => ∃ (x5_1 : Int) (x15_1 : Int), v5 = .int .i64 x5_1 ∧ v15 = .int .i64 x15_1 ∧ Aside0 (trystlaw11_size.l0 kq a1 x5_1 (l0_1.length : Int) x15_1 a0_0 l0_1 l0_2 = some r) ∧ Aside0 (kq ≤ k) ∧ Aside0 (w'.heap[gb148]? = some (.cells #[.string a0_0, (.slice A0_1 l0_1.length c0_1), (.slice A0_2 l0_2.length c0_2)] 25 (0, 0))) ∧ Aside0 (Below w.heap.size w w'))
 case atStart => exact ⟨(wrap64 (1 + (a0_0.size : Int))), (0), zS, zS, H', ⟨Nat.le_refl _⟩, ⟨blk_below BK148.out zX⟩, ⟨zB⟩⟩
 case round =>
  clear H'; clear hcz4_0 hcz4_1 hcz4_2 hfz4_0 hfz4_1 hfz4_2; obtain ⟨x5_1, x15_1, rfl, rfl, HA, HK1, BK148, HB⟩ := hrel
  cases gk with
  | zero => exact absurd HA.out (by simp [trystlaw11_size.l0])
  | succ k1 =>
   have H := HA.out; clear HA; simp only [trystlaw11_size.l0] at H; replace H := zId H; rcases H with ⟨-, c5b0, H⟩ | ⟨-, c5b0, H⟩
   ·replace H := zJd H; obtain ⟨-, c6b0, H⟩ := H; replace H := zJd H; obtain ⟨-, c7b0, H⟩ := H; replace H := zO H; obtain ⟨t150, A8, H⟩ := H; replace H := zIb H; rcases H with ⟨rfl, H⟩ | ⟨rfl, H⟩
    ·have H' := Aside0.mk H; clear H; have hcz10_0 := zc0 BK148; have hcz10_1 := zc1 BK148; have hcz10_2 := zc2 BK148; have hfz10_0 := zf BK148 0; have hfz10_1 := zf BK148 1; have hfz10_2 := zf BK148 2; have p149 := zQ (0 ≤ (x15_1 : Int)); have q149 := zQ (x15_1 < (l0_1.length : Int)); obtain ⟨ad149, A149_1, c149_1, e149, hx149_0, hx149_1, hx149_2, hl149_1, hi149_1⟩ := at_T53 HR0_1.out x15_1 p149 q149
     cases e149
     replace hx149_0 := zx HB hx149_0; replace hx149_1 := zx HB hx149_1; replace hx149_2 := zx HB hx149_2; have HR149_1 := Aside0.mk hi149_1; have HC149_1 := Aside0.mk hl149_1; clear hi149_1 hl149_1; replace p149 := eq_true p149; replace q149 := eq_true q149
     iterate 5 (first | go_quiet (fail) | go_wp2_with (first | (go_at_call 35; (with_reducible refine (trystlaw10_Few.calls k1 ((rd_T53 l0_1 x15_1).f0) _ _ ((rd_T53 l0_1 x15_1).f1) ((rd_T53 l0_1 x15_1).f2) true _ zG ?side1 ?side2 A8.out).mono ?_); (case side1 => exact Kd.C_below (Kd.C_below HR149_1.out HB.out) zX); (case side2 => exact HC149_1.out); rintro e w11 ⟨rfl, hb⟩; replace BK148 := zb BK148 hb; replace HB := zw hb; (try clear hb); have hcz12_0 := zc0 BK148; have hcz12_1 := zc1 BK148; have hcz12_2 := zc2 BK148; have hfz12_0 := zf BK148 0; have hfz12_1 := zf BK148 1; have hfz12_2 := zf BK148 2; have p151 : 0 ≤ (x15_1 : Int) := of_decide_eq_true (by first | (with_reducible assumption) | assumption); have q151 : x15_1 < (l0_1.length : Int) := of_decide_eq_true (by first | (with_reducible assumption) | assumption); obtain ⟨ad151, A151_1, c151_1, e151, hx151_0, hx151_1, hx151_2, hl151_1, hi151_1⟩ := at_T53 HR0_1.out x15_1 p151 q151; obtain rfl : ad149 = ad151 := (by injection e151); replace hx151_0 := zx HB hx151_0; replace hx151_1 := zx HB hx151_1; replace hx151_2 := zx HB hx151_2; have HR151_1 := Aside0.mk hi151_1; have HC151_1 := Aside0.mk hl151_1; clear hi151_1 hl151_1; replace p151 := eq_true p151; replace q151 := eq_true q151; have p152 : 0 ≤ (x15_1 : Int) := of_decide_eq_true (by first | (with_reducible assumption) | assumption); have q152 : x15_1 < (l0_1.length : Int) := of_decide_eq_true (by first | (with_reducible assumption) | assumption); obtain ⟨ad152, A152_1, c152_1, e152, hx152_0, hx152_1, hx152_2, hl152_1, hi152_1⟩ := at_T53 HR0_1.out x15_1 p152 q152; obtain rfl : ad149 = ad152 := (by injection e152); replace hx152_0 := zx HB hx152_0; replace hx152_1 := zx HB hx152_1; replace hx152_2 := zx HB hx152_2; have HR152_1 := Aside0.mk hi152_1; have HC152_1 := Aside0.mk hl152_1; clear hi152_1 hl152_1; replace p152 := eq_true p152; replace q152 := eq_true q152; have ea_ := Option.some.inj (hx151_1.symm.trans hx152_1); injection ea_ with ea_ en_ ec_; subst ea_; subst ec_; clear en_)))
     go_roundg k1
     case measure => have := HK1.out; omega
     case rel => exact ⟨(wrap64 ((wrap64 ((wrap64 (x5_1 + 1)) + (((rd_T53 l0_1 x15_1).f0).size : Int))) + (((rd_T53 l0_1 x15_1).f2).size : Int))), (wrap64 (x15_1 + 1)), zS, zS, H', ⟨by have := HK1.out; omega⟩, ⟨blk_below BK148.out zX⟩, ⟨zB⟩⟩
    ·obtain rfl := Option.some.inj H; have hcz13_0 := zc0 BK148; have hcz13_1 := zc1 BK148; have hcz13_2 := zc2 BK148; have hfz13_0 := zf BK148 0; have hfz13_1 := zf BK148 1; have hfz13_2 := zf BK148 2; have p149 := zQ (0 ≤ (x15_1 : Int)); have q149 := zQ (x15_1 < (l0_1.length : Int)); obtain ⟨ad149, A149_1, c149_1, e149, hx149_0, hx149_1, hx149_2, hl149_1, hi149_1⟩ := at_T53 HR0_1.out x15_1 p149 q149
     cases e149
     replace hx149_0 := zx HB hx149_0; replace hx149_1 := zx HB hx149_1; replace hx149_2 := zx HB hx149_2; have HR149_1 := Aside0.mk hi149_1; have HC149_1 := Aside0.mk hl149_1; clear hi149_1 hl149_1; replace p149 := eq_true p149; replace q149 := eq_true q149
     iterate 5 (first | go_quiet (fail) | go_wp2_with (first | (go_at_call 35; (with_reducible refine (trystlaw10_Few.calls k1 ((rd_T53 l0_1 x15_1).f0) _ _ ((rd_T53 l0_1 x15_1).f1) ((rd_T53 l0_1 x15_1).f2) false _ zG ?side1 ?side2 A8.out).mono ?_); (case side1 => exact Kd.C_below (Kd.C_below HR149_1.out HB.out) zX); (case side2 => exact HC149_1.out); rintro e w14 ⟨rfl, hb⟩; replace BK148 := zb BK148 hb; replace HB := zw hb; (try clear hb))))
     go_ret; exact ⟨zE, zB⟩
   ·have H' := Aside0.mk H; clear H; have hcz15_0 := zc0 BK148; have hcz15_1 := zc1 BK148; have hcz15_2 := zc2 BK148; have hfz15_0 := zf BK148 0; have hfz15_1 := zf BK148 1; have hfz15_2 := zf BK148 2; go_wp2
    repeat (go_quiet (fail); try go_wp2)
    go_loopg [5, 47] k1 (fun kq v5 v47 w' => ∃ (x5_2 : Int) (x47_2 : Int), v5 = .int .i64 x5_2 ∧ v47 = .int .i64 x47_2 ∧ Aside0 (trystlaw11_size.l1 kq a1 x5_2 (l0_2.length : Int) x47_2 a0_0 l0_1 l0_2 = some r) ∧ Aside0 (kq ≤ k1) ∧ Aside0 (w'.heap[gb148]? = some (.cells #[.string a0_0, (.slice A0_1 l0_1.length c0_1), (.slice A0_2 l0_2.length c0_2)] 25 (0, 0))) ∧ Aside0 (Below w.heap.size w w'))
    case atStart => exact ⟨(x5_1), (0), zS, zS, H', ⟨Nat.le_refl _⟩, ⟨blk_below BK148.out zX⟩, ⟨zB⟩⟩
    case round =>
     clear H'; clear c5b0 hcz15_0 hcz15_1 hcz15_2 hfz15_0 hfz15_1 hfz15_2; obtain ⟨x5_2, x47_2, rfl, rfl, HA, HK2, BK148, HB⟩ := hrel
     cases gk with
     | zero => exact absurd HA.out (by simp [trystlaw11_size.l1])
     | succ k2 =>
      have H := HA.out; clear HA; simp only [trystlaw11_size.l1] at H; replace H := zId H; rcases H with ⟨-, c16b0, H⟩ | ⟨-, c16b0, H⟩
      ·replace H := zI H; rcases H with ⟨c17, H⟩ | ⟨c17, H⟩
       ·have c17b0 : decide (10 < a1) = true := decide_eq_true c17; clear c17; obtain rfl := Option.some.inj H; go_wp2
        repeat (go_quiet (fail); try go_wp2)
        go_ret; exact ⟨zE, zB⟩
       ·have c17b0 : decide (10 < a1) = false := decide_eq_false c17; clear c17; replace H := zI H; rcases H with ⟨c18, H⟩ | ⟨c18, H⟩
        ·have c18b0 : decide (50000 < x5_2) = true := decide_eq_true c18; clear c18; obtain rfl := Option.some.inj H; go_wp2
         repeat (go_quiet (fail); try go_wp2)
         go_ret; exact ⟨zE, zB⟩
        ·have c18b0 : decide (50000 < x5_2) = false := decide_eq_false c18; clear c18; replace H := zJd H; obtain ⟨-, c19b0, H⟩ := H; replace H := zJd H; obtain ⟨-, c20b0, H⟩ := H; replace H := zO H; obtain ⟨t154, A21, H⟩ := H; have H' := Aside0.mk H; clear H; have hcz22_0 := zc0 BK148; have hcz22_1 := zc1 BK148; have hcz22_2 := zc2 BK148; have hfz22_0 := zf BK148 0; have hfz22_1 := zf BK148 1; have hfz22_2 := zf BK148 2; have p153 := zQ (0 ≤ (x47_2 : Int)); have q153 := zQ (x47_2 < (l0_2.length : Int))
         obtain ⟨ad153, A153_1, c153_1, A153_2, c153_2, e153, hx153_0, hx153_1, hx153_2, hl153_1, hi153_1, hl153_2, hi153_2⟩ := at_T25 HR0_2.out x47_2 p153 q153
         cases e153
         replace hx153_0 := zx HB hx153_0; replace hx153_1 := zx HB hx153_1; replace hx153_2 := zx HB hx153_2; have HR153_1 := Aside0.mk hi153_1; have HC153_1 := Aside0.mk hl153_1; clear hi153_1 hl153_1; have HR153_2 := Aside0.mk hi153_2; have HC153_2 := Aside0.mk hl153_2; clear hi153_2 hl153_2; replace p153 := eq_true p153; replace q153 := eq_true q153
         iterate 5 (first | go_quiet (fail) | go_wp2_with (first | (go_at_call 19; (with_reducible refine (ih k2 (by have := HK1.out; have := HK2.out; omega) ((rd_T25 l0_2 x47_2).f0) _ _ ((rd_T25 l0_2 x47_2).f1) _ _ ((rd_T25 l0_2 x47_2).f2) (wrap64 (a1 + 1)) t154 _ zG ?side1 ?side2 ?side3 ?side4 A21.out).mono ?_); (case side1 => exact Kd.C_below (Kd.C_below HR153_1.out HB.out) zX); (case side2 => exact HC153_1.out); (case side3 => exact Kd.C_below (Kd.C_below HR153_2.out HB.out) zX); (case side4 => exact HC153_2.out); rintro e w23 ⟨rfl, hb⟩; replace BK148 := zb BK148 hb; replace HB := zw hb; (try clear hb))))
         go_roundg k2
         case measure => have := HK1.out; have := HK2.out; omega
         case rel => exact ⟨(wrap64 (x5_2 + t154)), (wrap64 (x47_2 + 1)), zS, zS, H', ⟨by have := HK1.out; have := HK2.out; omega⟩, ⟨blk_below BK148.out zX⟩, ⟨zB⟩⟩
      ·obtain rfl := Option.some.inj H; go_wp2
       repeat (go_quiet (fail); try go_wp2)
       go_ret; exact ⟨zE, zB⟩
def trystlaw11_Few.f (k : Nat) (a0_0 : ByteArray) (l0_1 : List (S53)) (l0_2 : List (S25)) : Option (Bool) := (trystlaw11_size.f k a0_0 l0_1 l0_2 0).bind fun t156 => (some (decide (t156 ≤ 50000)))
set_option maxHeartbeats 8000000 in
set_option maxRecDepth 100000 in
theorem trystlaw11_Few.calls (k : Nat) (a0_0 : ByteArray) (A0_1 : Option Addr) (c0_1 : Nat) (l0_1 : List (S53)) (A0_2 : Option Addr) (c0_2 : Nat) (l0_2 : List (S25)) (r : Bool) (w : World) (hG : GG w) (hr0_1 : Kd.C k53 w A0_1 l0_1.length l0_1) (hc0_1 : l0_1.length ≤ c0_1) (hr0_2 : Kd.C k25 w A0_2 l0_2.length l0_2) (hc0_2 : l0_2.length ≤ c0_2) (h : trystlaw11_Few.f k a0_0 l0_1 l0_2 = some r) :
  Calls Tryz.prog 7 #[.agg #[.string a0_0, .slice A0_1 l0_1.length c0_1, .slice A0_2 l0_2.length c0_2]] w fun e w' => e = .returned (.bool r) ∧ Below w.heap.size w w' := by
 have hu25 := Tryz.underlying25; have HR0_1 := Aside0.mk hr0_1; have HC0_1 := Aside0.mk hc0_1; clear hr0_1 hc0_1; have HR0_2 := Aside0.mk hr0_2; have HC0_2 := Aside0.mk hc0_2; clear hr0_2 hc0_2; have HB := Aside0.mk (Below.refl w.heap.size w); have H : ((trystlaw11_size.f k a0_0 l0_1 l0_2 0).bind fun t156 => (some (decide (t156 ≤ 50000)))) = some r := h; clear h; replace H := zO H; obtain ⟨t156, A2, H⟩ := H; obtain rfl := Option.some.inj H
 go_enter Tryz.func7, Tryz.ntmps7
 go_wp2_with (first | ((with_reducible refine gate_dst (N := 1) rfl ?_); refine zbox (N := 1) #[.string a0_0, .slice A0_1 l0_1.length c0_1, .slice A0_2 l0_2.length c0_2] 25 (fun gb155 hg w3 hbox hb => ?_); have n0_ := zw hb; have n1_ := Aside0.mk hbox; have n2_ := zg w hg; have n3_ := zg w hg; clear HB; have HB := n0_; have BK155 := n1_; have GW155 := n2_; have GE155 := n3_; clear n0_ n1_ n2_ n3_; clear hb hbox hg; have hcz4_0 := zc0 BK155; have hcz4_1 := zc1 BK155; have hcz4_2 := zc2 BK155; have hfz4_0 := zf BK155 0; have hfz4_1 := zf BK155 1; have hfz4_2 := zf BK155 2) | ((with_reducible refine gate_callee (f := 19) rfl ?_); refine goesL_ (some 4) rfl rfl Tryz.func19 (by kernel_rfl) rfl #[.agg #[.string a0_0, .slice A0_1 l0_1.length c0_1, .slice A0_2 l0_2.length c0_2], .int .i64 0] rfl zA ?_; (with_reducible refine (trystlaw11_size.calls k a0_0 _ _ l0_1 _ _ l0_2 0 t156 _ zG ?side1 ?side2 ?side3 ?side4 A2.out).mono ?_); (case side1 => exact Kd.C_below (Kd.C_below HR0_1.out HB.out) zX); (case side2 => exact HC0_1.out); (case side3 => exact Kd.C_below (Kd.C_below HR0_2.out HB.out) zX); (case side4 => exact HC0_2.out); rintro e w5 ⟨rfl, hb⟩; refine ⟨_, rfl, ?_⟩; replace BK155 := zb BK155 hb; replace HB := zw hb; (try clear hb)))
 go_ret; exact ⟨zE, zB⟩
end Go.Proofs.YtdojmdbaiddkgaaGreatDoor.Print
end
