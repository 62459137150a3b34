/- Texts of the proof of TreeAgain, put together: Shelf Rune XBase TabsU8 Print0 Sq Print1 Print2 Bld Caret Print3 Print5 Print9 LEq LAt Print10. -/
import Derived.Shelf.Unicode.ValidAny
import Derived.Shelf.Strings.Builder1
import Derived.Shelf.Strings.Builder2
import Derived.Shelf.Small.Utf8
import Derived.Shelf.Small.Strs
import Derived.Shelf.Strings.BuilderF
import Derived.Shelf.Strings.BuilderK
import Derived.Shelf.Strings.Builder2Cap
import Derived.Shelf.Strings.Search1
import Derived.Shelf.Strings.Search2
import Derived.Shelf.Strings.Search3
import Derived.Shelf.Strings.Count
import Derived.Shelf.LaysM
import Derived.Shelf.Strings.Shaped
import Derived.Shelf.Strings.Prefix
import Derived.Shelf.Strings.Runes
import Derived.Shelf.Strings.IndexAny
import Derived.Shelf.Strings.AsciiSet
import Derived.Shelf.Strings.IndexAnyAll
import Derived.Shelf.Unicode.DecodeSlow
import Derived.Shelf.Unicode.DecodeAny
import Derived.Shelf.Strings.BuilderCap
import Derived.Shelf.Slices.Equal
import Derived.Shelf.Slices.Empties2
import Derived.Test.YtdojmdbaiddkgaaGreatDoorProg
import Derived.WalkKit
import Derived.WalkSpells
import Derived.Laws.Runes
import Derived.Laws.RangeAny
import Derived.Laws.RangeString
import Derived.Lib.IndexAny
import Derived.Lib.SpaceUEq
import Derived.Lib.RuneCount
import Derived.Lib.QuoteLoop
import Derived.Lib.Hide
import Derived.Lib.OthersKept
import Derived.Lib.DecodeN
import Derived.BigQuiet
import Derived.IntWalk
import Derived.Deep.QuietTactic
import Derived.Test.YtdojmdbaiddkgaaGreatDoorQTreeAgainWMore
import Derived.Test.YtdojmdbaiddkgaaGreatDoorRows
import Derived.Lib.LaidU8T
import Derived.PinnedBridge
import Derived.MakeChecks
import Derived.ProofKit
import Derived.Below
import Derived.Deep.Draws
import Derived.Deep.AppendLies
import Derived.Maps.AppendAt
import Derived.OwnWalk
import Derived.Laws.BytesArg
import Derived.Laws.MakeOwn
import Derived.Laws.OwnMore
import Derived.Deep.OwnRows
import Derived.Tactics
import Derived.Lib.ConvBytes
import Derived.Laws.Slices
import Derived.KernelRfl
import Derived.RowKit3
import Derived.Deep.LoopGhost
import Derived.WideLaws
import Derived.Deep.DeepCutAuto
import Derived.Deep.CutBlock
import Derived.Deep.RegionHeld3
import Derived.Laws.Rows
import Derived.Lib.AppendStr
import Derived.ArgAppend
import Derived.Laws.IdiomCopy
import Derived.OrdersHeld
import Derived.Laws.BitsLemmas
import Derived.RowKit
import Derived.Test.YtdojmdbaiddkgaaGreatDoorQTreeAgainWWords
import Derived.Test.YtdojmdbaiddkgaaGreatDoorQTreeAgainWLast
import Derived.Test.YtdojmdbaiddkgaaGreatDoorQTreeAgainWTab
import Derived.Test.YtdojmdbaiddkgaaGreatDoorQTreeAgainWQPut
import Derived.Test.YtdojmdbaiddkgaaGreatDoorQTreeAgainWApart
import Derived.Test.YtdojmdbaiddkgaaGreatDoorQTreeAgainWArr
import Derived.Test.YtdojmdbaiddkgaaGreatDoorQTreeAgainWZeros
import Derived.Test.YtdojmdbaiddkgaaGreatDoorQTreeAgainWFoot
import Derived.Test.YtdojmdbaiddkgaaGreatDoorQTreeAgainWKept
import Derived.Test.YtdojmdbaiddkgaaGreatDoorQTreeAgainWShare
import Derived.Test.YtdojmdbaiddkgaaGreatDoorQTreeAgainWN
import Derived.Test.YtdojmdbaiddkgaaGreatDoorQTreeAgainWRepsOne
import Derived.Test.YtdojmdbaiddkgaaGreatDoorQTreeAgainWInv
import Derived.Test.YtdojmdbaiddkgaaGreatDoorQTreeAgainWGuard
import Derived.Test.YtdojmdbaiddkgaaGreatDoorQTreeAgainWNEv
import Derived.Laws.NewBlocks
import Derived.Outline
import Derived.Laws.StructEq
section
namespace Go.Proofs.YtdojmdbaiddkgaaGreatDoor.Print
open Go.RowKit
variable {P : Program} {ops : Array Oper} {rest : List Oper} {o : Oper} {a : Act} {Q : Exit → Act → World → Prop} {W : World}
theorem gate_callee {f : FuncId} {xs : Array Operand} {ts : Array TypeId} (_h : o.op = .call { callee := .value (.func f), args := xs, argTypes := ts }) (h : wpList P ops Q (o :: rest) a W) : wpList P ops Q (o :: rest) a W := h
theorem gate_builtin {b : Builtin} {xs : Array Operand} {ts : Array TypeId} (_h : o.op = .call { callee := .builtin b, args := xs, argTypes := ts }) (h : wpList P ops Q (o :: rest) a W) : wpList P ops Q (o :: rest) a W := h
def mx (a b : Int) : Int := if a < b then b else a
theorem maxI (ts : Array TypeId) (ty : TypeId) (k k' : IntKind) (x y : Int) : Builtin.max_ ts ty #[.int k x, .int k' y] = pure (.int k (if x < y then y else x)) := by simp [Builtin.max_, Builtin.max2]
end Go.Proofs.YtdojmdbaiddkgaaGreatDoor.Print
namespace Go.Proofs.YtdojmdbaiddkgaaGreatDoor.Print
open Go.RowKit Go.Proofs.YtdojmdbaiddkgaaGreatDoorW.PrintWords
variable {α β : Type} {d : Kd α} {e base N : Nat} {w1 W : World} {u v : Value} {xs : List α} {ok : Nat → Prop}
theorem Kd.R_old (hu : d.R e W base ok u xs) (hb : Below W.heap.size W w1) : d.R e w1 base (fun k => ok k ∧ k < W.heap.size) u xs :=
  Kd.R_mono (Kd.R_below (Kd.R_bound hu) hb) (fun _ h => ⟨h.1, h.2.2.1⟩)
theorem Kd.R_told (h : d.R e w1 base (fun k => ok k ∧ k < N) u xs) (hbase : ∀ k, v.ownBlock = some k → N ≤ k) : d.R e w1 base (fun k => (ok k ∧ some k ≠ v.ownBlock) ∧ k < N) u xs :=
  Kd.R_mono h (fun k hk => ⟨⟨hk.1, fun e => Nat.lt_irrefl _ (Nat.lt_of_lt_of_le hk.2 (hbase k e.symm))⟩, hk.2⟩)
end Go.Proofs.YtdojmdbaiddkgaaGreatDoor.Print
end
section
namespace Go.Proofs
open Go.Shelf
def Tryz.lays170_ren : Go.Shelf.Ren := ⟨fun | 170 => 39 | n => n, fun | 70 => 81 | 3 => 3 | 0 => 0 | 72 => 84 | 37 => 82 | 5 => 5 | n => n, fun | n => n⟩
theorem Tryz.lays170 : Go.Proofs.Lays.n170 Tryz.prog Tryz.lays170_ren := {
  mixed := by kernel_rfl
  f170 := Tryz.func39.trans (congrArg some (by kernel_rfl))
  t0 := Tryz.underlying0
  a0 := Tryz.isAgg0
  z0 := Tryz.sizeOf0
  v0 := Tryz.zeroValue0
  t3 := Tryz.underlying3
  a3 := Tryz.isAgg3
  z3 := Tryz.sizeOf3
  v3 := Tryz.zeroValue3
  t37 := Tryz.underlying82
  a37 := Tryz.isAgg82
  z37 := Tryz.sizeOf82
  v37 := Tryz.zeroValue82
  t70 := Tryz.underlying81
  a70 := Tryz.isAgg81
  z70 := Tryz.sizeOf81
  v70 := Tryz.zeroValue81
  t72 := Tryz.underlying84
  a72 := Tryz.isAgg84
  z72 := Tryz.sizeOf84
  v72 := Tryz.zeroValue84 }
open Go.RowKit in
def Tryz.lays169_ren : Go.Shelf.Ren := ⟨fun | 169 => 41 | n => n, fun | 70 => 81 | 9 => 9 | 0 => 0 | 72 => 84 | 37 => 82 | 127 => 118 | 3 => 3 | 5 => 5 | n => n, fun | n => n⟩
theorem Tryz.lays169 : Go.Proofs.Lays.n169 Tryz.prog Tryz.lays169_ren := {
  mixed := by kernel_rfl
  f169 := Tryz.func41.trans (congrArg some (by kernel_rfl))
  t0 := Tryz.underlying0
  a0 := Tryz.isAgg0
  z0 := Tryz.sizeOf0
  v0 := Tryz.zeroValue0
  t3 := Tryz.underlying3
  a3 := Tryz.isAgg3
  z3 := Tryz.sizeOf3
  v3 := Tryz.zeroValue3
  t9 := Tryz.underlying9
  a9 := Tryz.isAgg9
  z9 := Tryz.sizeOf9
  v9 := Tryz.zeroValue9
  t37 := Tryz.underlying82
  a37 := Tryz.isAgg82
  z37 := Tryz.sizeOf82
  v37 := Tryz.zeroValue82
  t70 := Tryz.underlying81
  a70 := Tryz.isAgg81
  z70 := Tryz.sizeOf81
  v70 := Tryz.zeroValue81
  t72 := Tryz.underlying84
  a72 := Tryz.isAgg84
  z72 := Tryz.sizeOf84
  v72 := Tryz.zeroValue84
  t127 := Tryz.underlying118
  a127 := Tryz.isAgg118
  z127 := Tryz.sizeOf118
  v127 := Tryz.zeroValue118 }
theorem Tryz.Builder_Extra_169 : Builder.Extra Tryz.prog Tryz.lays169_ren := {
  sizeBuilder := by kernel_rfl
  liesBuilder := by kernel_rfl
  t5 := Tryz.underlying5
  a5 := Tryz.isAgg5
  z5 := Tryz.sizeOf5
  v5 := Tryz.zeroValue5
  infoByte := by kernel_rfl
  cellsByte := by kernel_rfl
  sizeByte := by kernel_rfl
  neB5 := by decide }
open Go.RowKit in
open Go.RowKit in
open Go.RowKit in
open Go.RowKit in
open Go.RowKit in
def Tryz.lays119_ren : Go.Shelf.Ren := ⟨fun | 119 => 97 | n => n, fun | 21 => 21 | 4 => 4 | n => n, fun | n => n⟩
theorem Tryz.lays119 : Go.Proofs.Lays.n119 Tryz.prog Tryz.lays119_ren := {
  mixed := by kernel_rfl
  f119 := Tryz.func97.trans (congrArg some (by kernel_rfl))
  t4 := Tryz.underlying4
  a4 := Tryz.isAgg4
  z4 := Tryz.sizeOf4
  v4 := Tryz.zeroValue4
  t21 := Tryz.underlying21
  a21 := Tryz.isAgg21
  z21 := Tryz.sizeOf21
  v21 := Tryz.zeroValue21 }
/-- utf8.ValidRune: "ValidRune reports whether r can be legally encoded as UTF-8. Code points that are out of range or a surrogate half are illegal.": IT RETURNS 'Lib.validRune r'; the world is as it was. (LAID: no walk: one application.) -/
theorem Tryz.utf8_ValidRune (r : Int) (w : World) :
    Calls Tryz.prog 97 #[.int .i32 r] w fun e w' => e = .returned (.bool (Lib.validRune r)) ∧ w' = w := Any.utf8_ValidRune Tryz.lays119 r w
def Tryz.lays137_ren : Go.Shelf.Ren := ⟨fun | 137 => 90 | 217 => 100 | 266 => 107 | n => n, fun | 9 => 9 | 5 => 5 | 3 => 3 | n => n, fun | n => n⟩
theorem Tryz.lays137 : Go.Proofs.Lays.n137 Tryz.prog Tryz.lays137_ren := {
  mixed := by kernel_rfl
  f137 := Tryz.func90.trans (congrArg some (by kernel_rfl))
  f217 := Tryz.func100.trans (congrArg some (by kernel_rfl))
  f266 := Tryz.func107.trans (congrArg some (by kernel_rfl))
  t3 := Tryz.underlying3
  a3 := Tryz.isAgg3
  z3 := Tryz.sizeOf3
  v3 := Tryz.zeroValue3
  t5 := Tryz.underlying5
  a5 := Tryz.isAgg5
  z5 := Tryz.sizeOf5
  v5 := Tryz.zeroValue5
  t9 := Tryz.underlying9
  a9 := Tryz.isAgg9
  z9 := Tryz.sizeOf9
  v9 := Tryz.zeroValue9 }
open Go.RowKit in
/-- strings.IndexByte: "IndexByte returns the index of the first instance of c in s, or -1 if c is not present in s.": IT RETURNS 'Lib.indexByte s c'; the world is as it was. (LAID: no walk: one application.) -/
theorem Tryz.strings_IndexByte (s : ByteArray) (c : Int) (w : World) :
    Calls Tryz.prog 90 #[.string s, .int .u8 c] w fun e w' => e = .returned (.int .i64 (Lib.indexByte s.data.toList c.toNat.toUInt8)) ∧ w' = w := Any.strings_IndexByte Tryz.lays137 s c w
open Go.RowKit in
/-- (*strings.Builder).Len: "Len returns the number of accumulated bytes; b.Len() == len(b.String()).": the world is as it was. (THE FORM '_f': 'Lib.IsBuilderF'.) (LAID: no walk: one application.) -/
theorem Tryz.Builder_Len_f (B b : Nat) (bs : List Value) (w : World) (h : Lib.IsBuilderF 84 5 B b bs w) :
    Calls Tryz.prog 39 #[.pointer (some ⟨b, 0, none⟩)] w fun e w' => e = .returned (.int .i64 bs.length) ∧ w' = w := Any.Builder_Len_f Tryz.lays170 B b bs w h
open Go.RowKit in
open Go.RowKit in
open Go.RowKit in
open Go.RowKit in
open Go.RowKit in
open Go.RowKit in
/-- (*strings.Builder).String: "String returns the accumulated string.": WHATEVER THE BUILDER HOLDS; THE FORM '_k': OVER 'Lib.IsBuilderF' (a builder that 'String()' may have read), AND WITH THE FRAME THAT REACHES ABOVE THE BUILDER: 'Lib.OthersKept': every block that is not b and is no row of uint8's stands as it stood: the iterator of a range among them. (LAID: no walk: one application.) -/
theorem Tryz.Builder_String_any_k (B b : Nat) (l : List UInt8) (w : World) (h : Lib.IsBuilderF 84 5 B b (Lib.byteCells l) w) (hBw : B ≤ w.heap.size) :
    Calls Tryz.prog 41 #[.pointer (some ⟨b, 0, none⟩)] w fun e w' => e = .returned (.string ⟨l.toArray⟩) ∧ (Lib.IsBuilderF 84 5 B b (Lib.byteCells l) w' ∧ Below B w w' ∧ Lib.OthersKept 5 (some b) w w') := Any.Builder_String_any_k Tryz.lays169 Tryz.Builder_Extra_169 B b l w h hBw
open Go.RowKit in
open Go.RowKit in
open Go.RowKit Go.Lib in
open Go.RowKit Go.Lib in
open Go.RowKit Go.Lib in
open Go.RowKit Go.Lib in
open Go.RowKit Go.Lib in
open Go.RowKit Go.Lib in
open Go.RowKit Go.Lib in
open Go.RowKit Go.Lib in
def Tryz.lays138_ren : Go.Shelf.Ren := ⟨fun | 138 => 169 | 195 => 170 | 218 => 171 | 143 => 172 | 219 => 173 | 217 => 100 | 225 => 99 | 224 => 98 | 267 => 174 | 266 => 107 | 314 => 175 | n => n, fun | 9 => 9 | 3 => 3 | 4 => 4 | 5 => 5 | 0 => 0 | 46 => 128 | 146 => 237 | 51 => 148 | n => n, fun | 1 => 2 | n => n⟩
theorem Tryz.lays138 : Go.Proofs.Lays.n138 Tryz.prog Tryz.lays138_ren := {
  mixed := by kernel_rfl
  f138 := Tryz.func169.trans (congrArg some (by kernel_rfl))
  f143 := Tryz.func172.trans (congrArg some (by kernel_rfl))
  f195 := Tryz.func170.trans (congrArg some (by kernel_rfl))
  f217 := Tryz.func100.trans (congrArg some (by kernel_rfl))
  f218 := Tryz.func171.trans (congrArg some (by kernel_rfl))
  f219 := Tryz.func173.trans (congrArg some (by kernel_rfl))
  f224 := Tryz.func98.trans (congrArg some (by kernel_rfl))
  f225 := Tryz.func99.trans (congrArg some (by kernel_rfl))
  f266 := Tryz.func107.trans (congrArg some (by kernel_rfl))
  f267 := Tryz.func174.trans (congrArg some (by kernel_rfl))
  f314 := Tryz.func175.trans (congrArg some (by kernel_rfl))
  t0 := Tryz.underlying0
  a0 := Tryz.isAgg0
  z0 := Tryz.sizeOf0
  v0 := Tryz.zeroValue0
  t3 := Tryz.underlying3
  a3 := Tryz.isAgg3
  z3 := Tryz.sizeOf3
  v3 := Tryz.zeroValue3
  t4 := Tryz.underlying4
  a4 := Tryz.isAgg4
  z4 := Tryz.sizeOf4
  v4 := Tryz.zeroValue4
  t5 := Tryz.underlying5
  a5 := Tryz.isAgg5
  z5 := Tryz.sizeOf5
  v5 := Tryz.zeroValue5
  t9 := Tryz.underlying9
  a9 := Tryz.isAgg9
  z9 := Tryz.sizeOf9
  v9 := Tryz.zeroValue9
  t46 := Tryz.underlying128
  a46 := Tryz.isAgg128
  z46 := Tryz.sizeOf128
  v46 := Tryz.zeroValue128
  t51 := Tryz.underlying148
  a51 := Tryz.isAgg148
  z51 := Tryz.sizeOf148
  v51 := Tryz.zeroValue148
  t146 := Tryz.underlying237
  a146 := Tryz.isAgg237
  z146 := Tryz.sizeOf237
  v146 := Tryz.zeroValue237
  g1 := by kernel_rfl }
open Go.RowKit Go.Lib in
/-- strings.Count AT A substr OF ONE BYTE ('hp'): "Count counts the number of non-overlapping instances of substr in s.": IT RETURNS 'Lib.countByte s (that byte)'; the world is as it was. ✋ NO CONTRACT HERE YET at an empty substr (utf8.RuneCountInString) or at a longer one (a loop over strings.Index). (LAID: no walk: one application.) -/
theorem Tryz.strings_Count_one (s : ByteArray) (c : UInt8) (w : World) :
    Calls Tryz.prog 169 #[.string s, .string ⟨#[c]⟩] w fun e w' => e = .returned (.int .i64 (Lib.countByte s.data.toList c)) ∧ w' = w := Any.strings_Count_one Tryz.lays138 s c w
open Go.RowKit Go.Lib in
open Go.RowKit Go.Lib in
open Go.RowKit Go.Lib in
open Go.RowKit Go.Lib in
def Tryz.lays206_ren : Go.Shelf.Ren := ⟨fun | 206 => 109 | n => n, fun | 9 => 9 | 4 => 4 | 3 => 3 | n => n, fun | n => n⟩
open Go.RowKit Go.Lib in
def Tryz.lays99_ren : Go.Shelf.Ren := ⟨fun | 99 => 102 | 206 => 109 | n => n, fun | 9 => 9 | 4 => 4 | 3 => 3 | n => n, fun | n => n⟩
open Go.RowKit Go.Lib in
def Tryz.lays207_ren : Go.Shelf.Ren := ⟨fun | 207 => 108 | n => n, fun | 9 => 9 | 4 => 4 | 3 => 3 | n => n, fun | n => n⟩
open Go.RowKit Go.Lib in
def Tryz.lays209_ren : Go.Shelf.Ren := ⟨fun | 209 => 101 | 207 => 108 | n => n, fun | 9 => 9 | 4 => 4 | 3 => 3 | n => n, fun | n => n⟩
open Go.RowKit Go.Lib in
def Tryz.lays102_ren : Go.Shelf.Ren := ⟨fun | 102 => 91 | 209 => 101 | 207 => 108 | n => n, fun | 9 => 9 | 4 => 4 | 3 => 3 | n => n, fun | n => n⟩
open Go.RowKit Go.Lib in
def Tryz.lays152_ren : Go.Shelf.Ren := ⟨fun | 152 => 82 | 137 => 90 | 119 => 97 | 224 => 98 | 225 => 99 | 217 => 100 | 266 => 107 | n => n, fun | 9 => 9 | 21 => 21 | 3 => 3 | 4 => 4 | 5 => 5 | 0 => 0 | 46 => 128 | n => n, fun | n => n⟩
theorem Tryz.lays152 : Go.Proofs.Lays.n152 Tryz.prog Tryz.lays152_ren := {
  mixed := by kernel_rfl
  f119 := Tryz.func97.trans (congrArg some (by kernel_rfl))
  f137 := Tryz.func90.trans (congrArg some (by kernel_rfl))
  f152 := Tryz.func82.trans (congrArg some (by kernel_rfl))
  f217 := Tryz.func100.trans (congrArg some (by kernel_rfl))
  f224 := Tryz.func98.trans (congrArg some (by kernel_rfl))
  f225 := Tryz.func99.trans (congrArg some (by kernel_rfl))
  f266 := Tryz.func107.trans (congrArg some (by kernel_rfl))
  t0 := Tryz.underlying0
  a0 := Tryz.isAgg0
  z0 := Tryz.sizeOf0
  v0 := Tryz.zeroValue0
  t3 := Tryz.underlying3
  a3 := Tryz.isAgg3
  z3 := Tryz.sizeOf3
  v3 := Tryz.zeroValue3
  t4 := Tryz.underlying4
  a4 := Tryz.isAgg4
  z4 := Tryz.sizeOf4
  v4 := Tryz.zeroValue4
  t5 := Tryz.underlying5
  a5 := Tryz.isAgg5
  z5 := Tryz.sizeOf5
  v5 := Tryz.zeroValue5
  t9 := Tryz.underlying9
  a9 := Tryz.isAgg9
  z9 := Tryz.sizeOf9
  v9 := Tryz.zeroValue9
  t21 := Tryz.underlying21
  a21 := Tryz.isAgg21
  z21 := Tryz.sizeOf21
  v21 := Tryz.zeroValue21
  t46 := Tryz.underlying128
  a46 := Tryz.isAgg128
  z46 := Tryz.sizeOf128
  v46 := Tryz.zeroValue128 }
open Go.RowKit Go.Lib in
theorem Tryz.strings_IndexRune_ascii (s : ByteArray) (r : Int) (w : World) (h0 : 0 ≤ r) (h1 : r < 128) :
    Calls Tryz.prog 82 #[.string s, .int .i32 r] w fun e w' => e = .returned (.int .i64 (Lib.indexByte s.data.toList r.toNat.toUInt8)) ∧ w' = w := Any.strings_IndexRune_ascii Tryz.lays152 s r w h0 h1
open Go.RowKit Go.Lib in
def Tryz.lays226_ren : Go.Shelf.Ren := ⟨fun | 226 => 83 | n => n, fun | 3 => 3 | 4 => 4 | n => n, fun | n => n⟩
theorem Tryz.lays226 : Go.Proofs.Lays.n226 Tryz.prog Tryz.lays226_ren := {
  mixed := by kernel_rfl
  f226 := Tryz.func83.trans (congrArg some (by kernel_rfl))
  t3 := Tryz.underlying3
  a3 := Tryz.isAgg3
  z3 := Tryz.sizeOf3
  v3 := Tryz.zeroValue3
  t4 := Tryz.underlying4
  a4 := Tryz.isAgg4
  z4 := Tryz.sizeOf4
  v4 := Tryz.zeroValue4 }
open Go.RowKit Go.Lib in
theorem Tryz.strings_shouldUseASCIISet (n : Int) (w : World) :
    Calls Tryz.prog 83 #[.int .i64 n] w fun e w' => e = .returned (.bool (decide (8 < n))) ∧ w' = w := Any.strings_shouldUseASCIISet Tryz.lays226 n w
def Tryz.lays153_ren : Go.Shelf.Ren := ⟨fun | 153 => 66 | 152 => 82 | 226 => 83 | 227 => 84 | 228 => 85 | 137 => 90 | 119 => 97 | 224 => 98 | 225 => 99 | 217 => 100 | 266 => 107 | n => n, fun | 9 => 9 | 3 => 3 | 4 => 4 | 5 => 5 | 21 => 21 | 117 => 135 | 116 => 134 | 0 => 0 | 46 => 128 | 124 => 164 | n => n, fun | n => n⟩
theorem Tryz.lays153 : Go.Proofs.Lays.n153 Tryz.prog Tryz.lays153_ren := {
  mixed := by kernel_rfl
  f119 := Tryz.func97.trans (congrArg some (by kernel_rfl))
  f137 := Tryz.func90.trans (congrArg some (by kernel_rfl))
  f152 := Tryz.func82.trans (congrArg some (by kernel_rfl))
  f153 := Tryz.func66.trans (congrArg some (by kernel_rfl))
  f217 := Tryz.func100.trans (congrArg some (by kernel_rfl))
  f224 := Tryz.func98.trans (congrArg some (by kernel_rfl))
  f225 := Tryz.func99.trans (congrArg some (by kernel_rfl))
  f226 := Tryz.func83.trans (congrArg some (by kernel_rfl))
  f227 := Tryz.func84.trans (congrArg some (by kernel_rfl))
  f228 := Tryz.func85.trans (congrArg some (by kernel_rfl))
  f266 := Tryz.func107.trans (congrArg some (by kernel_rfl))
  t0 := Tryz.underlying0
  a0 := Tryz.isAgg0
  z0 := Tryz.sizeOf0
  v0 := Tryz.zeroValue0
  t3 := Tryz.underlying3
  a3 := Tryz.isAgg3
  z3 := Tryz.sizeOf3
  v3 := Tryz.zeroValue3
  t4 := Tryz.underlying4
  a4 := Tryz.isAgg4
  z4 := Tryz.sizeOf4
  v4 := Tryz.zeroValue4
  t5 := Tryz.underlying5
  a5 := Tryz.isAgg5
  z5 := Tryz.sizeOf5
  v5 := Tryz.zeroValue5
  t9 := Tryz.underlying9
  a9 := Tryz.isAgg9
  z9 := Tryz.sizeOf9
  v9 := Tryz.zeroValue9
  t21 := Tryz.underlying21
  a21 := Tryz.isAgg21
  z21 := Tryz.sizeOf21
  v21 := Tryz.zeroValue21
  t46 := Tryz.underlying128
  a46 := Tryz.isAgg128
  z46 := Tryz.sizeOf128
  v46 := Tryz.zeroValue128
  t116 := Tryz.underlying134
  a116 := Tryz.isAgg134
  z116 := Tryz.sizeOf134
  t117 := Tryz.underlying135
  a117 := Tryz.isAgg135
  z117 := Tryz.sizeOf135
  v117 := Tryz.zeroValue135
  t124 := Tryz.underlying164
  a124 := Tryz.isAgg164
  z124 := Tryz.sizeOf164
  v124 := Tryz.zeroValue164 }
open Go.RowKit Go.Lib in
open Go.RowKit Go.Lib in
open Go.RowKit Go.Lib in
open Go.RowKit Go.Lib in
open Go.RowKit Go.Lib in
open Go.RowKit Go.Lib in
theorem Tryz.strings_IndexAny_long (hv116 : ∀ w, (zeroValue 134).run Tryz.prog w = .ok (.agg (Array.replicate 256 (.bool false))) w) (s chars : ByteArray) (w : World) (h2 : 2 ≤ chars.size) (h8 : 8 < s.size) (hs : s.size < 4294967281) (hcs : chars.size < 4294967281) (hascii : ∀ (j : Nat) b, chars.data.toList[j]? = some b → b.toNat < 128) :
    Calls Tryz.prog 66 #[.string s, .string chars] w fun e w' => e = .returned (.int .i64 (Lib.indexAny s.data.toList chars.data.toList)) ∧ w' = ((w.alloc (.cells (Lib.setCells chars.data.toList) 134)).alloc (.cells (Lib.setCells chars.data.toList) 134)) := Any.strings_IndexAny_long Tryz.lays153 hv116 (by kernel_rfl) s chars w h2 h8 hs hcs hascii
open Go.RowKit Go.Lib in
def Tryz.lays150_ren : Go.Shelf.Ren := ⟨fun | 150 => 38 | 153 => 66 | 152 => 82 | 226 => 83 | 227 => 84 | 228 => 85 | 137 => 90 | 119 => 97 | 224 => 98 | 225 => 99 | 217 => 100 | 266 => 107 | n => n, fun | 9 => 9 | 4 => 4 | 3 => 3 | 5 => 5 | 21 => 21 | 117 => 135 | 116 => 134 | 0 => 0 | 46 => 128 | 124 => 164 | n => n, fun | n => n⟩
open Go.RowKit Go.Lib in
open Go.RowKit Go.Lib in
open Go.RowKit Go.Lib in
open Go.RowKit Go.Lib in
def Tryz.lays197_ren : Go.Shelf.Ren := ⟨fun | 197 => 67 | 260 => 86 | n => n, fun | 9 => 9 | 21 => 21 | 3 => 3 | 4 => 4 | 5 => 5 | 105 => 116 | 119 => 124 | 0 => 0 | 46 => 128 | 139 => 127 | 138 => 126 | n => n, fun | 3 => 0 | 4 => 1 | n => n⟩
theorem Tryz.lays197 : Go.Proofs.Lays.n197 Tryz.prog Tryz.lays197_ren := {
  mixed := by kernel_rfl
  f197 := Tryz.func67.trans (congrArg some (by kernel_rfl))
  f260 := Tryz.func86.trans (congrArg some (by kernel_rfl))
  t0 := Tryz.underlying0
  a0 := Tryz.isAgg0
  z0 := Tryz.sizeOf0
  v0 := Tryz.zeroValue0
  t3 := Tryz.underlying3
  a3 := Tryz.isAgg3
  z3 := Tryz.sizeOf3
  v3 := Tryz.zeroValue3
  t4 := Tryz.underlying4
  a4 := Tryz.isAgg4
  z4 := Tryz.sizeOf4
  v4 := Tryz.zeroValue4
  t5 := Tryz.underlying5
  a5 := Tryz.isAgg5
  z5 := Tryz.sizeOf5
  v5 := Tryz.zeroValue5
  t9 := Tryz.underlying9
  a9 := Tryz.isAgg9
  z9 := Tryz.sizeOf9
  v9 := Tryz.zeroValue9
  t21 := Tryz.underlying21
  a21 := Tryz.isAgg21
  z21 := Tryz.sizeOf21
  v21 := Tryz.zeroValue21
  t46 := Tryz.underlying128
  a46 := Tryz.isAgg128
  z46 := Tryz.sizeOf128
  v46 := Tryz.zeroValue128
  t105 := Tryz.underlying116
  a105 := Tryz.isAgg116
  z105 := Tryz.sizeOf116
  v105 := Tryz.zeroValue116
  t119 := Tryz.underlying124
  a119 := Tryz.isAgg124
  z119 := Tryz.sizeOf124
  t138 := Tryz.underlying126
  a138 := Tryz.isAgg126
  z138 := Tryz.sizeOf126
  v138 := Tryz.zeroValue126
  t139 := Tryz.underlying127
  a139 := Tryz.isAgg127
  z139 := Tryz.sizeOf127
  v139 := Tryz.zeroValue127
  g3 := by kernel_rfl
  g4 := by kernel_rfl }
open Go.RowKit Go.Lib in
/-- **unicode/utf8.DecodeRuneInString AT EVERY STRING.** (LAID: no walk: one application.) -/
theorem Tryz.utf8_DecodeRuneInString (s : ByteArray) (w : World) (hT : Lib.Utf8Tabs 0 1 w) :
    Calls Tryz.prog 67 #[.string s] w fun e w' => e = .returned (.tuple #[.int .i32 (Lib.decodeGo s).1, .int .i64 (Lib.decodeGo s).2]) ∧ Below w.heap.size w w' := Any.utf8_DecodeRuneInString Tryz.lays197 s w hT
def Tryz.lays193_ren : Go.Shelf.Ren := ⟨fun | 193 => 62 | n => n, fun | 31 => 54 | 9 => 9 | 4 => 4 | 3 => 3 | 0 => 0 | n => n, fun | n => n⟩
theorem Tryz.lays193 : Go.Proofs.Lays.n193 Tryz.prog Tryz.lays193_ren := {
  mixed := by kernel_rfl
  f193 := Tryz.func62.trans (congrArg some (by kernel_rfl))
  t0 := Tryz.underlying0
  a0 := Tryz.isAgg0
  z0 := Tryz.sizeOf0
  v0 := Tryz.zeroValue0
  t3 := Tryz.underlying3
  a3 := Tryz.isAgg3
  z3 := Tryz.sizeOf3
  v3 := Tryz.zeroValue3
  t4 := Tryz.underlying4
  a4 := Tryz.isAgg4
  z4 := Tryz.sizeOf4
  v4 := Tryz.zeroValue4
  t9 := Tryz.underlying9
  a9 := Tryz.isAgg9
  z9 := Tryz.sizeOf9
  v9 := Tryz.zeroValue9
  t31 := Tryz.underlying54
  a31 := Tryz.isAgg54
  z31 := Tryz.sizeOf54
  v31 := Tryz.zeroValue54 }
open Go.RowKit Go.Lib in
/-- slices.Equal at []string: "Equal reports whether two slices are equal: the same length and all elements equal. If the lengths are different, Equal returns false. Otherwise, the elements are compared in increasing index order, and the comparison stops at the first unequal pair. Empty and nil slices are considered equal.": IT RETURNS WHETHER THE TWO LISTS OF ELEMENTS ARE ONE; the world is as it was but for the count of draws (the test 's1[i] != s2[i]' has two reads, whose order the model draws, once a round). 'xs', 'ys': what the cells behind the two addresses hold (the spare capacity too, if you have it); 'xs.take n', 'ys.take m': the elements. THE TWO SLICES MAY OVERLAP. (LAID: no walk: one application.) -/
theorem Tryz.slices_Equal_string (b1 o1 n c b2 o2 m d : Nat) (xs ys : List ByteArray) (w : World) (hx : n ≤ xs.length) (hy : m ≤ ys.length) (hbig : n ≤ 9223372036854775807) (hbig2 : m ≤ 9223372036854775807) (hc1 : ∀ j, j < xs.length → w.cell? ⟨b1, o1 + j, none⟩ = some (.string (xs.getD j ByteArray.empty))) (hc2 : ∀ j, j < ys.length → w.cell? ⟨b2, o2 + j, none⟩ = some (.string (ys.getD j ByteArray.empty))) :
    Calls Tryz.prog 62 #[.slice (some ⟨b1, o1, none⟩) n c, .slice (some ⟨b2, o2, none⟩) m d] w fun e w' => e = .returned (.bool (decide (xs.take n = ys.take m))) ∧ ∃ q, w' = w.drewN q := Any.slices_Equal_string Tryz.lays193 b1 o1 n c b2 o2 m d xs ys w hx hy hbig hbig2 hc1 hc2
open Go.RowKit Go.Lib in
/-- The same where the first is of length 0 (a nil one too): no cell is asked for. (LAID: no walk: one application.) -/
theorem Tryz.slices_Equal_string_empty (a1 a2 : Option Addr) (c m d : Nat) (w : World) (hbig2 : m ≤ 9223372036854775807) :
    Calls Tryz.prog 62 #[.slice a1 0 c, .slice a2 m d] w fun e w' => e = .returned (.bool (decide (m = 0))) ∧ w' = w := Any.slices_Equal_string_empty Tryz.lays193 a1 a2 c m d w hbig2
open Go.RowKit Go.Lib in
theorem Tryz.slices_Equal_string_lens (a1 a2 : Option Addr) (n c m d : Nat) (w : World) (hnm : n ≠ m) :
    Calls Tryz.prog 62 #[.slice a1 n c, .slice a2 m d] w fun e w' => e = .returned (.bool false) ∧ w' = w := Any.slices_Equal_string_lens Tryz.lays193 a1 a2 n c m d w hnm
def Tryz.lays196_ren : Go.Shelf.Ren := ⟨fun | 196 => 50 | 259 => 76 | n => n, fun | 9 => 9 | 4 => 4 | 3 => 3 | 5 => 5 | 12 => 12 | 119 => 124 | 0 => 0 | 46 => 128 | 139 => 127 | 138 => 126 | 53 => 142 | n => n, fun | 3 => 0 | 4 => 1 | n => n⟩
theorem Tryz.lays196 : Go.Proofs.Lays.n196 Tryz.prog Tryz.lays196_ren := {
  mixed := by kernel_rfl
  f196 := Tryz.func50.trans (congrArg some (by kernel_rfl))
  f259 := Tryz.func76.trans (congrArg some (by kernel_rfl))
  t0 := Tryz.underlying0
  a0 := Tryz.isAgg0
  z0 := Tryz.sizeOf0
  v0 := Tryz.zeroValue0
  t3 := Tryz.underlying3
  a3 := Tryz.isAgg3
  z3 := Tryz.sizeOf3
  v3 := Tryz.zeroValue3
  t4 := Tryz.underlying4
  a4 := Tryz.isAgg4
  z4 := Tryz.sizeOf4
  v4 := Tryz.zeroValue4
  t5 := Tryz.underlying5
  a5 := Tryz.isAgg5
  z5 := Tryz.sizeOf5
  v5 := Tryz.zeroValue5
  t9 := Tryz.underlying9
  a9 := Tryz.isAgg9
  z9 := Tryz.sizeOf9
  v9 := Tryz.zeroValue9
  t12 := Tryz.underlying12
  a12 := Tryz.isAgg12
  z12 := Tryz.sizeOf12
  v12 := Tryz.zeroValue12
  t46 := Tryz.underlying128
  a46 := Tryz.isAgg128
  z46 := Tryz.sizeOf128
  v46 := Tryz.zeroValue128
  t53 := Tryz.underlying142
  a53 := Tryz.isAgg142
  z53 := Tryz.sizeOf142
  v53 := Tryz.zeroValue142
  t119 := Tryz.underlying124
  a119 := Tryz.isAgg124
  z119 := Tryz.sizeOf124
  t138 := Tryz.underlying126
  a138 := Tryz.isAgg126
  z138 := Tryz.sizeOf126
  v138 := Tryz.zeroValue126
  t139 := Tryz.underlying127
  a139 := Tryz.isAgg127
  z139 := Tryz.sizeOf127
  v139 := Tryz.zeroValue127
  g3 := by kernel_rfl
  g4 := by kernel_rfl }
end Go.Proofs
end
section
set_option linter.unusedVariables false
set_option linter.unusedSimpArgs false
namespace Go.Proofs.YtdojmdbaiddkgaaGreatDoor.Rune
open Go.RowKit
theorem Drawn2.below (w : World) (n : Nat) : Below w.heap.size w (w.drewN n) := ⟨rfl, rfl, rfl, Nat.le_refl _, fun _ _ => rfl⟩
theorem quiet_add_same {P : Program} {f : FuncId} {args : Array Value} {w : World} {a n : Nat} {v : Value}
    (h : Calls P f args (w.drewN (a + n)) fun e w' => e = .returned v ∧ w' = w.drewN (a + n)) :
    Calls P f args (w.drewN (a + n)) fun e w'' => e = .returned v ∧ ∃ m, w'' = w.drewN (a + m) :=
  h.mono fun _ _ ⟨he, hm⟩ => ⟨he, n, hm⟩
theorem indexByte_none (l : List UInt8) (c : UInt8) (h : ∀ b ∈ l, b ≠ c) : Lib.indexByte l c = -1 := by
  induction l with
  | nil => rfl
  | cons b t ih =>
    have h1 : (b == c) = false := beq_eq_false_iff_ne.2 (h b (by simp))
    have h2 := ih (fun x hx => h x (by simp [hx]))
    unfold Lib.indexByte
    rw [h1, h2]; rfl
theorem allx (chars : ByteArray) (hs : ∀ b ∈ chars.data.toList, b.toNat < 128) (a e : Nat) (c : UInt8) (hc : 128 ≤ c.toNat) : Lib.indexByte (chars.extract a e).data.toList c = -1 :=
  indexByte_none _ _ fun b hb hbc => by have := hs b (mem_extract hb); rw [hbc] at this; omega
theorem at_lt (chars : ByteArray) (hs : ∀ b ∈ chars.data.toList, b.toNat < 128) (i : Nat) (h : i < chars.size) : (chars[i]'h).toNat < 128 :=
  hs _ (Array.getElem_mem_toList (xs := chars.data) h)
set_option maxHeartbeats 2000000 in
set_option maxRecDepth 100000 in
theorem IndexRune_fffd (chars : ByteArray) (hs : ∀ b ∈ chars.data.toList, b.toNat < 128) (w : World) :
    Calls Tryz.prog 82 #[.string chars, .int .i32 65533] w fun e w' => e = .returned (.int .i64 (-1)) ∧ Below w.heap.size w w' := by
  have HS := Lib.hid hs
  clear hs
  go_enter Tryz.func82, Tryz.ntmps82
  go_wp2
  go_loopg [5, 6] chars.size (fun g _ _ wx => ∃ i : Nat, i + g = chars.size ∧ wx = w.iter chars i)
  case atStart => exact ⟨0, by omega, rfl⟩
  case round =>
    obtain ⟨i, hig, rfl⟩ := hrel
    cases gk with
    | zero =>
      obtain rfl : i = chars.size := by omega
      have hnx := run_next_end (P := Tryz.prog) w chars chars.size
      go_wp2
      go_ret
      exact ⟨rfl, (Below.refl _ _).alloc (Nat.le_refl _) _⟩
    | succ g =>
      have hi : i < chars.size := by omega
      have hx128 := at_lt chars HS.out i hi
      obtain ⟨x, hx⟩ : ∃ x : UInt8, chars[i]'hi = x := ⟨_, rfl⟩
      have hnx := fun ty => run_next_ascii (P := Tryz.prog) w chars i ty hi hx128
      rw [hx] at hnx hx128
      have hne : ((x.toNat : Int) == 65533) = false := beq_eq_false_iff_ne.2 (by omega)
      clear hx
      go_wp2
      go_roundg g
      case measure => omega
      case rel => exact ⟨i + 1, by omega, rfl⟩
set_option maxHeartbeats 4000000 in
set_option maxRecDepth 100000 in
theorem IndexRune_high (chars : ByteArray) (hs : ∀ b ∈ chars.data.toList, b.toNat < 128) (hc : chars.size ≤ 1000) (r : Int) (h0 : 128 ≤ r) (hv : validRune r = true) (hne : r ≠ 65533) (w : World) :
    Calls Tryz.prog 82 #[.string chars, .int .i32 r] w fun e w' => e = .returned (.int .i64 (-1)) ∧ Below w.heap.size w w' := by
  have HS := Lib.hid hs
  clear hs
  obtain ⟨h2, h4, hlast⟩ := encode_facts r (by rw [validRune_eq]; exact hv) h0
  have HV : Lib.validRune r = true := hv
  generalize he : Utf8.encode r = rs at *
  have hlt0 : rs.size - 1 < rs.size := by omega
  have hl128 := hlast hlt0
  clear hlast
  have HE := Lib.hid he
  have HVh := Lib.hid HV
  have HNE := Lib.hid hne
  clear he HV hv hne
  have t1 : decide (0 ≤ r) = true := by simp; omega
  have t2 : decide (r < 128) = false := by simp; omega
  have t3 : (r == 65533) = false := beq_eq_false_iff_ne.2 HNE.out
  obtain ⟨last, hlast⟩ : ∃ n : Nat, n = rs.size - 1 := ⟨_, rfl⟩
  have e1 : rs.size = last + 1 := by omega
  have hw1 : IntKind.i64.wrap ((rs.size : Int) - 1) = (last : Int) := by rw [e1]; unfold IntKind.wrap; simp [IntKind.bits, IntKind.signed]; omega
  have E1 := Lib.hid e1
  clear hlast
  have hlr : last < rs.size := by omega
  obtain ⟨x, hx⟩ : ∃ x : UInt8, rs[last]'hlr = x := ⟨_, rfl⟩
  have hx128 : 128 ≤ x.toNat := by rw [← hx]; have h9 := hl128; simp only [e1, Nat.add_sub_cancel] at h9; exact h9
  clear hl128 e1 hlt0
  by_cases hin : last < chars.size
  · have hy128 := at_lt chars HS.out last hin
    obtain ⟨y, hy⟩ : ∃ y : UInt8, chars[last]'hin = y := ⟨_, rfl⟩
    rw [hy] at hy128
    have hyx : ((y.toNat : Int) == (x.toNat : Int)) = false := beq_eq_false_iff_ne.2 (by omega)
    have hyx' : ((y.toNat : Int) != (x.toNat : Int)) = true := bne_iff_ne.2 (by omega)
    have hd1 : decide ((last : Int) < (chars.size : Int)) = true := by simp; omega
    have hd2 : decide (last < chars.size) = true := by simp; omega
    have w2 : IntKind.i64.wrap ((last : Int) + 1) = (last : Int) + 1 := by unfold IntKind.wrap; simp [IntKind.bits, IntKind.signed]; omega
    go_enter Tryz.func82, Tryz.ntmps82
    go_wp2_with (first | (go_at_call 97; refine (Tryz.utf8_ValidRune r _).mono ?_; rintro e w' ⟨rfl, hw⟩; rw [hw, HVh.out]; clear hw))
    have he := HE.out
    have e1 := E1.out
    go_step3
    go_wp2
    clear he e1
    refine wp_loop_rounds 1 ?_
    rw [rounds_succ]
    go_wp2
    go_step3
    go_wp2
    go_quiet (fail)
    go_wp2
    have hle : last + 1 ≤ chars.size := by omega
    have hle2 : (last : Int) + 1 ≤ (chars.size : Int) := by omega
    have h01 : (0 : Int) ≤ (last : Int) + 1 := by omega
    have hsl : ((last : Int) + 1).toNat = last + 1 := by omega
    have hix := allx chars HS.out (last + 1) chars.size x hx128
    have hix2 : Lib.indexByte (chars.extract (last + 1) chars.size).data.toList ((x.toNat : Int)).toNat.toUInt8 = -1 := by rw [← hix]; congr 1; simp
    go_quiet ((go_at_call 90; exact quiet_add_same (Tryz.strings_IndexByte _ _ _)))
    rw [hix2]
    go_wp2
    rw [Exit.noGoto_ret]
    go_wp2
    rw [Exit.noGoto_ret]
    go_ret
    exact ⟨rfl, (Drawn2.below _ _)⟩
  · have hd1 : decide ((last : Int) < (chars.size : Int)) = false := by simp; omega
    have hd2 : decide (last < chars.size) = false := by simp; omega
    go_enter Tryz.func82, Tryz.ntmps82
    go_wp2_with (first | (go_at_call 97; refine (Tryz.utf8_ValidRune r _).mono ?_; rintro e w' ⟨rfl, hw⟩; rw [hw, HVh.out]; clear hw))
    have he := HE.out
    have e1 := E1.out
    go_step3
    go_wp2
    clear he e1
    refine wp_loop_rounds 1 ?_
    rw [rounds_succ]
    go_wp2
    rw [Exit.noGoto_ret]
    go_ret
    exact ⟨rfl, Below.refl _ _⟩
theorem IndexRune_any (chars : ByteArray) (hs : ∀ b ∈ chars.data.toList, b.toNat < 128) (hc : chars.size ≤ 1000) (r : Nat) (h0 : 128 ≤ r) (hv : validRune (r : Int) = true) (w : World) :
    Calls Tryz.prog 82 #[.string chars, .int .i32 r] w fun e w' => e = .returned (.int .i64 (-1)) ∧ Below w.heap.size w w' := by
  by_cases h : r = 65533
  · subst h; exact IndexRune_fffd chars hs w
  · exact IndexRune_high chars hs hc r (by omega) hv (by omega) w
structure Aside0 (p : Prop) : Prop where mk :: (out : p)
theorem below_iterAt {B : Nat} {a w : World} (h : Below B a w) (k : Nat) (hk : B ≤ k) (s : ByteArray) (p : Nat) : Below B a (w.iterAt k s p) := by
  refine ⟨h.os, h.tape, h.output, ?_, fun i hi => ?_⟩
  · have := h.size; simpa [World.iterAt] using this
  · have h1 := h.block i hi
    rw [← h1]
    simp only [World.iterAt]
    rw [Array.getElem?_setIfInBounds_ne (by omega)]
theorem get!_at (s : ByteArray) (i : Nat) (h : i < s.size) : s.get! i = s[i]'h := by
  have : s[i]! = s[i]'h := getElem!_pos s i h
  cases s with | mk a => simp [ByteArray.get!] at *; exact getElem!_pos a i h
theorem dec_high (s : ByteArray) (i : Nat) (h : i < s.size) (hb : 128 ≤ (s[i]'h).toNat) :
    1 ≤ (Utf8.decode s i).2 ∧ i + (Utf8.decode s i).2 ≤ s.size ∧ (∀ j b, i ≤ j → j < i + (Utf8.decode s i).2 → s.data.toList[j]? = some b → 128 ≤ b.toNat) ∧ 128 ≤ (Utf8.decode s i).1 ∧ validRune ((Utf8.decode s i).1 : Int) = true := by
  have hpos := Lib.decode_width_pos s i h
  rw [Lib.decode_at] at *
  have hb0 : 128 ≤ (s.get! i).toNat := by rw [get!_at s i h]; exact hb
  have k0 := (s.get! i).toNat_lt
  have hle := Lib.decodeN_width_le (s.size - i) (s.get! i).toNat (s.get! (i + 1)).toNat (s.get! (i + 2)).toNat (s.get! (i + 3)).toNat (by omega)
  have hc := Lib.decodeN_conts (s.size - i) (s.get! i).toNat (s.get! (i + 1)).toNat (s.get! (i + 2)).toNat (s.get! (i + 3)).toNat
  have hv := Lib.decodeN_valid (s.size - i) (s.get! i).toNat (s.get! (i + 1)).toNat (s.get! (i + 2)).toNat (s.get! (i + 3)).toNat k0
  have hcs := Lib.decodeN_cases (s.size - i) (s.get! i).toNat (s.get! (i + 1)).toNat (s.get! (i + 2)).toNat (s.get! (i + 3)).toNat
  generalize Lib.decodeN (s.size - i) (s.get! i).toNat (s.get! (i + 1)).toNat (s.get! (i + 2)).toNat (s.get! (i + 3)).toNat = d at *
  obtain ⟨r, n⟩ := d
  simp only at *
  refine ⟨hpos, by omega, fun j b hj1 hj2 hb' => ?_, ?_, ?_⟩
  · obtain ⟨hlt, hbe⟩ := List.getElem?_eq_some_iff.1 hb'
    have hjs : j < s.size := by omega
    have e : s.get! j = b := by rw [get!_at s j hjs, ← hbe]; rfl
    obtain rfl | rfl | rfl | rfl : j = i ∨ j = i + 1 ∨ j = i + 2 ∨ j = i + 3 := by omega
    · rw [← e]; exact hb0
    · rw [← e]; have := hc.1 (by omega); omega
    · rw [← e]; have := hc.2.1 (by omega); omega
    · rw [← e]; have := hc.2.2.1 (by omega); omega
  · rcases hcs with h1 | h1 | h1 | h1 | h1
    · omega
    · have := h1.2.2.2.2; simp at this; omega
    · have := h1.2.2.2.2.2; simp at this; omega
    · omega
    · have := h1; simp at this; omega
  · unfold validRune
    simp
    omega
theorem contains_high (chars : List UInt8) (hs : ∀ b ∈ chars, b.toNat < 128) (b : UInt8) (hb : 128 ≤ b.toNat) : chars.contains b = false := by
  cases h : chars.contains b
  · rfl
  · have := hs b (by simpa using h); omega
theorem noAny_high {s chars : List UInt8} (hs : ∀ b ∈ chars, b.toNat < 128) {i n : Nat} (h : Lib.NoAny s chars i) (hb : ∀ j b, i ≤ j → j < i + n → s[j]? = some b → 128 ≤ b.toNat) : Lib.NoAny s chars (i + n) := fun j b hj hx => by
  by_cases hji : j < i
  · exact h j b hji hx
  · exact contains_high chars hs b (hb j b (by omega) hj hx)
set_option maxHeartbeats 4000000 in
set_option maxRecDepth 100000 in
theorem IndexAny_short (s chars : ByteArray) (hs : ∀ b ∈ chars.data.toList, b.toNat < 128) (h2 : 2 ≤ chars.size) (hc : chars.size ≤ 1000) (h8 : s.size ≤ 8) (w : World) :
    Calls Tryz.prog 66 #[.string s, .string chars] w fun e w' => e = .returned (.int .i64 (Lib.indexAny s.data.toList chars.data.toList)) ∧ Below w.heap.size w w' := by
  have HS := Lib.hid hs
  clear hs
  have hemp : chars.toList.isEmpty = false := by
    rw [Lib.toList_data]
    cases h : chars.data.toList with
    | nil => have := Lib.size_eq chars; rw [h, List.length_nil] at this; omega
    | cons _ _ => rfl
  have hn1 : ((chars.size : Int) == 1) = false := beq_eq_false_iff_ne.2 (by omega)
  have h8z : decide ((8 : Int) < (s.size : Int)) = false := decide_eq_false (by omega)
  go_enter Tryz.func66, Tryz.ntmps66
  go_wp2_with (go_at_call 83; refine (Tryz.strings_shouldUseASCIISet _ _).mono ?_; rintro e w' ⟨rfl, hw⟩; rw [hw, h8z]; clear hw)
  go_loopg [9, 10] s.size (fun g _ _ wx => ∃ i : Nat, i ≤ s.size ∧ s.size ≤ i + g ∧ Aside0 (Below w.heap.size w wx) ∧ Aside0 (wx.heap[w.heap.size]? = some (.stringIter s i)) ∧ Aside0 (Lib.NoAny s.data.toList chars.data.toList i))
  case atStart => exact ⟨0, by omega, by omega, ⟨(Below.refl _ _).alloc (Nat.le_refl _) _⟩, ⟨World.iter_heap _ _ _⟩, ⟨Lib.NoAny.zero _ _⟩⟩
  case round =>
    obtain ⟨i, hig, hgs, HB, HI, HN⟩ := hrel
    by_cases hi : i < s.size
    · cases gk with
      | zero => omega
      | succ g =>
        by_cases hx128 : (s[i]'hi).toNat < 128
        · obtain ⟨x, hx⟩ : ∃ x : UInt8, s[i]'hi = x := ⟨_, rfl⟩
          have hxl : s.data.toList[i]? = some x := by rw [← hx]; exact Lib.data_getElem? s i hi
          have hnx := fun ty => Lib.run_next_ascii_at (P := Tryz.prog) wr w.heap.size s i ty HI.out hi hx128
          rw [hx] at hnx hx128
          have Hx : Aside0 (s.data.toList[i]? = some x) := ⟨hxl⟩
          clear hxl hx
          have hcon := Lib.contains_iff_indexByte chars.data.toList x
          have hback : ((x.toNat : Int)).toNat.toUInt8 = x := by simp
          have HB2 : Aside0 (Below w.heap.size w (wr.iterAt w.heap.size s (i + 1))) := ⟨below_iterAt HB.out _ (Nat.le_refl _) _ _⟩
          have HI2 : Aside0 ((wr.iterAt w.heap.size s (i + 1)).heap[w.heap.size]? = some (.stringIter s (i + 1))) := ⟨Lib.iterAt_heap wr _ s i (i + 1) HI.out⟩
          cases hin : chars.data.toList.contains x
          · rw [hin] at hcon
            have hlt : ¬ ((0 : Int) ≤ Lib.indexByte chars.data.toList x) := of_decide_eq_false hcon.symm
            clear hcon
            go_wp2_with (go_at_call 82; refine (Tryz.strings_IndexRune_ascii _ _ _ (by omega) (by omega)).mono ?_; rintro e w' ⟨rfl, hw⟩; rw [hw, hback]; clear hw)
            go_roundg g
            case measure => omega
            case rel => exact ⟨i + 1, by omega, by omega, HB2, HI2, ⟨HN.out.succ Hx.out hin⟩⟩
          · rw [hin] at hcon
            have hge : (0 : Int) ≤ Lib.indexByte chars.data.toList x := of_decide_eq_true hcon.symm
            clear hcon
            go_wp2_with (go_at_call 82; refine (Tryz.strings_IndexRune_ascii _ _ _ (by omega) (by omega)).mono ?_; rintro e w' ⟨rfl, hw⟩; rw [hw, hback]; clear hw)
            go_ret
            exact ⟨by rw [Lib.indexAny_hit HN.out Hx.out hin]; rfl, HB2.out⟩
        · obtain ⟨d1, d2, d3, d4, d5⟩ := dec_high s i hi (by omega)
          have hnx := fun ty => Lib.run_next_any_at (P := Tryz.prog) wr w.heap.size s i ty HI.out hi
          generalize hd : Utf8.decode s i = d at *
          obtain ⟨r, n⟩ := d
          simp only at *
          have HB2 : Aside0 (Below w.heap.size w (wr.iterAt w.heap.size s (i + n))) := ⟨below_iterAt HB.out _ (Nat.le_refl _) _ _⟩
          have HI2 : Aside0 ((wr.iterAt w.heap.size s (i + n)).heap[w.heap.size]? = some (.stringIter s (i + n))) := ⟨Lib.iterAt_heap wr _ s i (i + n) HI.out⟩
          have HN2 : Aside0 (Lib.NoAny s.data.toList chars.data.toList (i + n)) := ⟨noAny_high HS.out HN.out d3⟩
          clear hd d3
          have hneg : decide ((0 : Int) ≤ -1) = false := by decide
          have hlt2 : w.heap.size < (wr.iterAt w.heap.size s (i + n)).heap.size := (Array.getElem?_eq_some_iff.1 HI2.out).1
          go_wp2_with (go_at_call 82; refine (IndexRune_any chars HS.out hc r (by omega) d5 _).mono ?_; rintro e w' ⟨rfl, hb⟩)
          go_roundg g
          case measure => omega
          case rel => exact ⟨i + n, by omega, by omega, ⟨HB2.out.trans (hb.mono (by omega))⟩, ⟨(hb.block _ hlt2).trans HI2.out⟩, HN2⟩
    · have hnx := fun ty => Lib.run_next_end_at (P := Tryz.prog) wr w.heap.size s i ty HI.out hi
      go_wp2
      go_ret
      exact ⟨by rw [Lib.indexAny_none (by rw [← Lib.size_eq]; have : i = s.size := by omega
                                          rw [← this]; exact HN.out)]; rfl, HB.out⟩
end Go.Proofs.YtdojmdbaiddkgaaGreatDoor.Rune
end
section
set_option linter.unusedVariables false
set_option linter.unusedSimpArgs false
namespace Go.Proofs.YtdojmdbaiddkgaaGreatDoor.Print
open Go.RowKit Go.Proofs.YtdojmdbaiddkgaaGreatDoorW.PrintWords Go.Proofs.YtdojmdbaiddkgaaGreatDoorW.PrintLast Go.Proofs.YtdojmdbaiddkgaaGreatDoorW.PrintMore
theorem bne_nil_isEmpty (l : List UInt8) : (l != []) = !l.isEmpty := by cases l <;> rfl
theorem beq_nil_isEmpty (l : List UInt8) : (l == []) = l.isEmpty := by cases l <;> rfl
structure GG (w : World) : Prop where
  u8 : Lib.Utf8Tabs 0 1 w
theorem GG.below {w w' : World} (h : GG w) (hb : Below w.heap.size w w') : GG w' := ⟨Utf8Tabs_below h.u8 hb⟩
theorem GG.drewN {w : World} (h : GG w) (n : Nat) : GG (w.drewN n) := h.below (pw_below_drewN (Below.refl _ _) n)
theorem GG.drew {w : World} (h : GG w) : GG w.drew := h.below (below_drew (Below.refl _ _))
theorem GG.alloc {w : World} (h : GG w) (o : Obj) : GG (w.alloc o) := h.below (below_alloc (Below.refl _ _) o)
def strings_IndexByte.f (a0 : ByteArray) (a1 : Int) : Option Int := some (Lib.indexByte a0.data.toList a1.toNat.toUInt8)
theorem strings_IndexByte.calls (a0 : ByteArray) (a1 : Int) (r : Int) (w : World) (hG : GG w) (h : strings_IndexByte.f a0 a1 = some r) :
    Calls Tryz.prog 90 #[.string a0, .int .u8 a1] w fun e w' => e = .returned (.int .i64 r) ∧ Drawn0 w w' := by
  obtain rfl := Option.some.inj h
  exact (Tryz.strings_IndexByte a0 a1 w).mono fun e w' ⟨he, hw⟩ => ⟨he, hw ▸ Drawn0.refl _⟩
def utf8_ValidString.f (a0 : ByteArray) : Option Bool := if a0.size ≤ 9223372036854775807 then some (Lib.validD a0.data.toList) else none
theorem utf8_ValidString.calls (a0 : ByteArray) (r : Bool) (w : World) (hG : GG w) (h : utf8_ValidString.f a0 = some r) :
    Calls Tryz.prog 50 #[.string a0] w fun e w' => e = .returned (.bool r) ∧ Below w.heap.size w w' := by
  by_cases hs : a0.size ≤ 9223372036854775807
  · simp only [utf8_ValidString.f] at h
    rw [if_pos hs] at h
    obtain rfl := Option.some.inj h
    exact Any.utf8_ValidString Tryz.lays196 a0 w hs hG.u8
  · simp only [utf8_ValidString.f] at h
    rw [if_neg hs] at h
    cases h
def strings_ContainsRune.f (a0 : ByteArray) (a1 : Int) : Option Bool := if 0 ≤ a1 ∧ a1 < 128 then some (decide (0 ≤ Lib.indexByte a0.data.toList a1.toNat.toUInt8)) else none
set_option maxHeartbeats 1000000 in
theorem strings_ContainsRune.calls (a0 : ByteArray) (a1 : Int) (r : Bool) (w : World) (hG : GG w) (h : strings_ContainsRune.f a0 a1 = some r) :
    Calls Tryz.prog 92 #[.string a0, .int .i32 a1] w fun e w' => e = .returned (.bool r) ∧ Drawn0 w w' := by
  by_cases hs : 0 ≤ a1 ∧ a1 < 128
  · simp only [strings_ContainsRune.f] at h
    rw [if_pos hs] at h
    obtain rfl := Option.some.inj h
    go_enter Tryz.func92, Tryz.ntmps92
    go_wp2_with (go_at_call 82; refine (Tryz.strings_IndexRune_ascii _ _ _ hs.1 hs.2).mono ?_; rintro e w' ⟨rfl, hw⟩; rw [hw]; clear hw)
    go_ret
    exact ⟨rfl, Drawn0.refl _⟩
  · simp only [strings_ContainsRune.f] at h
    rw [if_neg hs] at h
    cases h
def strings_ContainsAny.f (a0 a1 : ByteArray) : Option Bool := if a0.size < 4294967281 ∧ 2 ≤ a1.size ∧ a1.size ≤ 1000 ∧ a1.data.toList.all (fun b => decide (b.toNat < 128)) = true then some (Lib.containsAny a0.data.toList a1.data.toList) else none
set_option maxHeartbeats 1000000 in
theorem strings_ContainsAny.calls (a0 a1 : ByteArray) (r : Bool) (w : World) (hG : GG w) (h : strings_ContainsAny.f a0 a1 = some r) :
    Calls Tryz.prog 38 #[.string a0, .string a1] w fun e w' => e = .returned (.bool r) ∧ Below w.heap.size w w' := by
  by_cases hs : a0.size < 4294967281 ∧ 2 ≤ a1.size ∧ a1.size ≤ 1000 ∧ a1.data.toList.all (fun b => decide (b.toNat < 128)) = true
  · simp only [strings_ContainsAny.f] at h
    rw [if_pos hs] at h
    obtain rfl := Option.some.inj h
    obtain ⟨h1, h2, h3, h4⟩ := hs
    have hall : ∀ b ∈ a1.data.toList, b.toNat < 128 := fun b hb => by simpa using List.all_eq_true.1 h4 b hb
    have hidx : ∀ W : World, Calls Tryz.prog 66 #[.string a0, .string a1] W fun e w' => e = .returned (.int .i64 (Lib.indexAny a0.data.toList a1.data.toList)) ∧ Below W.heap.size W w' := fun W => by
      by_cases h8 : a0.size ≤ 8
      · exact Rune.IndexAny_short a0 a1 hall h2 h3 h8 W
      · refine (Tryz.strings_IndexAny_long (fun _ => by kernel_rfl) a0 a1 W h2 (by omega) h1 (by omega) (fun j b hb => hall b (List.mem_of_getElem? hb))).mono ?_
        rintro e w' ⟨he, hw⟩
        exact ⟨he, by rw [hw]; exact ((Below.refl _ _).alloc (Nat.le_refl _) _).alloc (by simp) _⟩
    clear h4
    have H := Lib.hid hidx
    clear hidx
    go_enter Tryz.func38, Tryz.ntmps38
    go_wp2_with (go_at_call 66; refine (H.out _).mono ?_; rintro e w' ⟨rfl, hb⟩)
    go_ret
    exact ⟨rfl, hb⟩
  · simp only [strings_ContainsAny.f] at h
    rw [if_neg hs] at h
    cases h
end Go.Proofs.YtdojmdbaiddkgaaGreatDoor.Print
end
section
set_option linter.unusedVariables false
namespace Go.Proofs.YtdojmdbaiddkgaaGreatDoor.Tabs
open Go Go.RowKit Go.Lib
def gFirst : Nat := 0
def gAccept : Nat := 1
theorem gg_of_reads {w : World} (h3 : VarReads Tryz.prog w "unicode/utf8.first" firstData) (h4 : VarReads Tryz.prog w "unicode/utf8.acceptRanges" acceptData) : Print.GG w :=
  ⟨utf8Tabs_of_readsT (U8Types.of196 Tryz.lays196) ⟨by kernel_rfl, by kernel_rfl, by kernel_rfl, by kernel_rfl, by kernel_rfl, by kernel_rfl, by kernel_rfl⟩ h3 h4⟩
theorem gg_of_laid {W : World} (h : laidMet Tryz.prog [("unicode/utf8.acceptRanges", Rows.laid_unicode_utf8_acceptRanges), ("unicode/utf8.first", Rows.laid_unicode_utf8_first)] W) : Print.GG W :=
  gg_of_reads (by have := Lib.laidMet.reads h (n := "unicode/utf8.first") (.tail _ (.head _)); rw [show Rows.laid_unicode_utf8_first = firstData from Pinned.utf8First_eq] at this; exact this) (Lib.laidMet.reads h (n := "unicode/utf8.acceptRanges") (.head _))
end Go.Proofs.YtdojmdbaiddkgaaGreatDoor.Tabs
end
section
namespace Go.Proofs.YtdojmdbaiddkgaaGreatDoor.Print
open Go.RowKit Go.Proofs.YtdojmdbaiddkgaaGreatDoorW.PrintWords Go.Proofs.YtdojmdbaiddkgaaGreatDoorW.PrintLast Go.Proofs.YtdojmdbaiddkgaaGreatDoorW.PrintMore
set_option linter.unusedVariables false
set_option linter.unusedSimpArgs false
def errW : Option Int → Value
 | none => .nilIface
 | some c => .iface 0 (.int .i64 c)
theorem errW_none : errW none = .nilIface := rfl
theorem errW_some (c : Int) : errW (some c) = .iface 0 (.int .i64 c) := rfl
theorem info9 : (Tryz.prog.info? 9).map (fun i => (i.zero, i.size, i.bytes)) = some (some (.string ⟨#[]⟩), 1, 16) := by kernel_rfl
theorem info31 : (Tryz.prog.info? 31).map (fun i => (i.zero, i.size, i.bytes)) = some (some (.agg #[(.string ⟨#[]⟩), (.slice none 0 0), (.slice none 0 0)]), 3, 64) := by kernel_rfl
theorem info49 : (Tryz.prog.info? 49).map (fun i => (i.zero, i.size, i.bytes)) = some (some (.agg #[(.string ⟨#[]⟩), (.slice none 0 0), (.string ⟨#[]⟩)]), 3, 56) := by kernel_rfl
theorem info77 : (Tryz.prog.info? 77).map (fun i => (i.zero, i.size, i.bytes)) = some (some (.agg #[(.string ⟨#[]⟩), (.slice none 0 0)]), 2, 40) := by kernel_rfl
theorem info95 : (Tryz.prog.info? 95).map (fun i => (i.zero, i.size, i.bytes)) = some (some (.agg #[(.string ⟨#[]⟩), (.int .i64 0)]), 2, 24) := by kernel_rfl
structure S77 where
 f0 : ByteArray
 f1 : (List ByteArray)
def z77 : S77 := ⟨(⟨#[]⟩ : ByteArray), ([] : List ByteArray)⟩
def k77 : Kd S77 := Kd.iso (Kd.pair Kd.string (Kd.slice 9 Kd.string)) (fun x : S77 => (x.f0, x.f1))
theorem k77_open {w : World} {x : S77} {cs : List Value} (h : k77.K w x cs) : ∃ A1 c1, cs = [.string x.f0, .slice A1 x.f1.length c1] ∧ x.f1.length ≤ c1 ∧ Kd.string.C w A1 x.f1.length x.f1 := by
 obtain ⟨_, _, rfl, rfl, ⟨A1, c1, rfl, l1, g1⟩⟩ := h
 exact ⟨A1, c1, rfl, l1, g1⟩
theorem k77_mkM (w : World) (base : Nat) (ok : Nat → Prop) (x : S77) {v1 : Value} (g1 : Kd.string.R 9 w base ok v1 x.f1) : k77.M w base ok x [.string x.f0, v1] := ⟨[.string x.f0], [v1], rfl, rfl, ⟨v1, rfl, g1⟩⟩
def rd_T77 (xs : List S77) (i : Int) : S77 := xs.getD i.toNat z77
theorem at_T77 {w : World} {A : Option Addr} {n : Nat} {xs : List S77} (h : Kd.C k77 w A n xs) (i : Int) (h0 : 0 ≤ i) (h1 : i < n) : ∃ ad A1 c1, A = some ad ∧ w.cell? (ad.add (i.toNat * 2)) = some (.string (rd_T77 xs i).f0) ∧ w.cell? ⟨(ad.add (i.toNat * 2)).block, (ad.add (i.toNat * 2)).off + 1, none⟩ = some (.slice A1 (rd_T77 xs i).f1.length c1) ∧ (rd_T77 xs i).f1.length ≤ c1 ∧ Kd.string.C w A1 (rd_T77 xs i).f1.length (rd_T77 xs i).f1 := by
 obtain ⟨ad, c, e, _, hK, hc0⟩ := Kd.C_get h z77 i h0 h1
 have hc : ∀ j u, c[j]? = some u → w.cell? (ad.add (i.toNat * 2 + j)) = some u := hc0
 obtain ⟨A1, c1, rfl, l1, g1⟩ := k77_open hK
 exact ⟨ad, A1, c1, e, hc 0 _ rfl, by rw [← add_field _ _ 1 (by omega)]; exact hc 1 _ rfl, l1, g1⟩
structure S49 where
 f0 : ByteArray
 f1 : (List S77)
 f2 : ByteArray
def z49 : S49 := ⟨(⟨#[]⟩ : ByteArray), ([] : List S77), (⟨#[]⟩ : ByteArray)⟩
def k49 : Kd S49 := Kd.iso (Kd.pair Kd.string (Kd.pair (Kd.slice 77 k77) Kd.string)) (fun x : S49 => (x.f0, x.f1, x.f2))
theorem k49_open {w : World} {x : S49} {cs : List Value} (h : k49.K w x cs) : ∃ A1 c1, cs = [.string x.f0, .slice A1 x.f1.length c1, .string x.f2] ∧ x.f1.length ≤ c1 ∧ k77.C w A1 x.f1.length x.f1 := by
 obtain ⟨_, _, rfl, rfl, ⟨_, _, rfl, ⟨A1, c1, rfl, l1, g1⟩, rfl⟩⟩ := h
 exact ⟨A1, c1, rfl, l1, g1⟩
theorem k49_mkM (w : World) (base : Nat) (ok : Nat → Prop) (x : S49) {v1 : Value} (g1 : k77.R 77 w base ok v1 x.f1) : k49.M w base ok x [.string x.f0, v1, .string x.f2] := ⟨[.string x.f0], [v1, .string x.f2], rfl, rfl, ⟨[v1], [.string x.f2], rfl, ⟨v1, rfl, g1⟩, rfl⟩⟩
def rd_T49 (xs : List S49) (i : Int) : S49 := xs.getD i.toNat z49
theorem at_T49 {w : World} {A : Option Addr} {n : Nat} {xs : List S49} (h : Kd.C k49 w A n xs) (i : Int) (h0 : 0 ≤ i) (h1 : i < n) : ∃ ad A1 c1, A = some ad ∧ w.cell? (ad.add (i.toNat * 3)) = some (.string (rd_T49 xs i).f0) ∧ w.cell? ⟨(ad.add (i.toNat * 3)).block, (ad.add (i.toNat * 3)).off + 1, none⟩ = some (.slice A1 (rd_T49 xs i).f1.length c1) ∧ w.cell? ⟨(ad.add (i.toNat * 3)).block, (ad.add (i.toNat * 3)).off + 2, none⟩ = some (.string (rd_T49 xs i).f2) ∧ (rd_T49 xs i).f1.length ≤ c1 ∧ k77.C w A1 (rd_T49 xs i).f1.length (rd_T49 xs i).f1 := by
 obtain ⟨ad, c, e, _, hK, hc0⟩ := Kd.C_get h z49 i h0 h1
 have hc : ∀ j u, c[j]? = some u → w.cell? (ad.add (i.toNat * 3 + j)) = some u := hc0
 obtain ⟨A1, c1, rfl, l1, g1⟩ := k49_open hK
 exact ⟨ad, A1, c1, e, hc 0 _ rfl, by rw [← add_field _ _ 1 (by omega)]; exact hc 1 _ rfl, by rw [← add_field _ _ 2 (by omega)]; exact hc 2 _ rfl, l1, g1⟩
structure S31 where
 f0 : ByteArray
 f1 : (List S49)
 f2 : (List S31)
def z31 : S31 := ⟨(⟨#[]⟩ : ByteArray), ([] : List S49), ([] : List S31)⟩
def F31 (d : Kd S31) : Kd S31 := Kd.iso (Kd.pair Kd.string (Kd.pair (Kd.slice 49 k49) (Kd.slice 31 d))) (fun x : S31 => (x.f0, x.f1, x.f2))
theorem mono31 : Kd.Mono F31 := Kd.mono_iso _ (Kd.mono_pair (Kd.mono_const _) (Kd.mono_pair (Kd.mono_const _) (Kd.mono_slice 31 Kd.mono_id)))
theorem sub31 : Kd.Sub F31 [9, 31, 49, 77] := Kd.sub_iso _ (Kd.sub_pair (Kd.sub_const _ (by decide)) (Kd.sub_pair (Kd.sub_const _ (by decide)) (Kd.sub_slice 31 (by decide) Kd.sub_id)))
theorem sz31 : ∀ n, (Kd.upto F31 3 [9, 31, 49, 77] n).sz = 3 := Kd.upto_sz (fun _ => rfl)
def k31 : Kd S31 := Kd.fix F31 3 [9, 31, 49, 77] sz31 (Kd.upto_E sub31)
theorem k31_open {w : World} {x : S31} {cs : List Value} (h : k31.K w x cs) : ∃ A1 c1 A2 c2, cs = [.string x.f0, .slice A1 x.f1.length c1, .slice A2 x.f2.length c2] ∧ x.f1.length ≤ c1 ∧ k49.C w A1 x.f1.length x.f1 ∧ x.f2.length ≤ c2 ∧ k31.C w A2 x.f2.length x.f2 := by
 obtain ⟨n, h⟩ := h
 cases n with
 | zero => exact h.elim
 | succ n =>
  obtain ⟨_, _, rfl, rfl, ⟨_, _, rfl, ⟨A1, c1, rfl, l1, g1⟩, ⟨A2, c2, rfl, l2, g2⟩⟩⟩ := h
  exact ⟨A1, c1, A2, c2, rfl, l1, g1, l2, Kd.fix_C g2⟩
theorem k31_mkM (w : World) (base : Nat) (ok : Nat → Prop) (x : S31) {v1 : Value} (g1 : k49.R 49 w base ok v1 x.f1) {v2 : Value} (g2 : k31.R 31 w base ok v2 x.f2) : k31.M w base ok x [.string x.f0, v1, v2] := by
 obtain ⟨n2, q2⟩ := Kd.fix_R_back mono31 g2
 have r2 := Kd.upto_R_le mono31 sz31 (show n2 ≤ n2 by omega) q2
 exact ⟨n2 + 1, ⟨[.string x.f0], [v1, v2], rfl, rfl, ⟨[v1], [v2], rfl, ⟨v1, rfl, g1⟩, ⟨v2, rfl, r2⟩⟩⟩⟩
def rd_T31 (xs : List S31) (i : Int) : S31 := xs.getD i.toNat z31
theorem at_T31 {w : World} {A : Option Addr} {n : Nat} {xs : List S31} (h : Kd.C k31 w A n xs) (i : Int) (h0 : 0 ≤ i) (h1 : i < n) : ∃ ad A1 c1 A2 c2, A = some ad ∧ w.cell? (ad.add (i.toNat * 3)) = some (.string (rd_T31 xs i).f0) ∧ w.cell? ⟨(ad.add (i.toNat * 3)).block, (ad.add (i.toNat * 3)).off + 1, none⟩ = some (.slice A1 (rd_T31 xs i).f1.length c1) ∧ w.cell? ⟨(ad.add (i.toNat * 3)).block, (ad.add (i.toNat * 3)).off + 2, none⟩ = some (.slice A2 (rd_T31 xs i).f2.length c2) ∧ (rd_T31 xs i).f1.length ≤ c1 ∧ k49.C w A1 (rd_T31 xs i).f1.length (rd_T31 xs i).f1 ∧ (rd_T31 xs i).f2.length ≤ c2 ∧ k31.C w A2 (rd_T31 xs i).f2.length (rd_T31 xs i).f2 := by
 obtain ⟨ad, c, e, _, hK, hc0⟩ := Kd.C_get h z31 i h0 h1
 have hc : ∀ j u, c[j]? = some u → w.cell? (ad.add (i.toNat * 3 + j)) = some u := hc0
 obtain ⟨A1, c1, A2, c2, rfl, l1, g1, l2, g2⟩ := k31_open hK
 exact ⟨ad, A1, c1, A2, c2, e, hc 0 _ rfl, by rw [← add_field _ _ 1 (by omega)]; exact hc 1 _ rfl, by rw [← add_field _ _ 2 (by omega)]; exact hc 2 _ rfl, l1, g1, l2, g2⟩
structure S95 where
 f0 : ByteArray
 f1 : Int
def z95 : S95 := ⟨(⟨#[]⟩ : ByteArray), (0 : Int)⟩
def k95 : Kd S95 := Kd.iso (Kd.pair Kd.string (Kd.int .i64)) (fun x : S95 => (x.f0, x.f1))
theorem k95_open {w : World} {x : S95} {cs : List Value} (h : k95.K w x cs) : cs = [.string x.f0, .int .i64 x.f1] := by
 obtain ⟨_, _, rfl, rfl, rfl⟩ := h
 exact rfl
theorem k95_openM {w : World} {base : Nat} {ok : Nat → Prop} {x : S95} {cs : List Value} (h : k95.M w base ok x cs) : cs = [.string x.f0, .int .i64 x.f1] := by
 obtain ⟨_, _, rfl, rfl, rfl⟩ := h
 exact rfl
theorem k95_mkM (w : World) (base : Nat) (ok : Nat → Prop) (x : S95)  : k95.M w base ok x [.string x.f0, .int .i64 x.f1] := ⟨[.string x.f0], [.int .i64 x.f1], rfl, rfl, rfl⟩
def rd_T95 (xs : List S95) (i : Int) : S95 := xs.getD i.toNat z95
theorem at_T95 {w : World} {A : Option Addr} {n : Nat} {xs : List S95} (h : Kd.C k95 w A n xs) (i : Int) (h0 : 0 ≤ i) (h1 : i < n) : ∃ ad , A = some ad ∧ w.cell? (ad.add (i.toNat * 2)) = some (.string (rd_T95 xs i).f0) ∧ w.cell? ⟨(ad.add (i.toNat * 2)).block, (ad.add (i.toNat * 2)).off + 1, none⟩ = some (.int .i64 (rd_T95 xs i).f1) := by
 obtain ⟨ad, c, e, _, hK, hc0⟩ := Kd.C_get h z95 i h0 h1
 have hc : ∀ j u, c[j]? = some u → w.cell? (ad.add (i.toNat * 2 + j)) = some u := hc0
 obtain rfl := k95_open hK
 exact ⟨ad, e, hc 0 _ rfl, by rw [← add_field _ _ 1 (by omega)]; exact hc 1 _ rfl⟩
structure S76 where
 f0 : ByteArray
 f1 : (List ByteArray)
structure S53 where
 f0 : ByteArray
 f1 : (List S76)
 f2 : ByteArray
def z53 : S53 := ⟨(⟨#[]⟩ : ByteArray), ([] : List S76), (⟨#[]⟩ : ByteArray)⟩
structure S25 where
 f0 : ByteArray
 f1 : (List S53)
 f2 : (List S25)
end Go.Proofs.YtdojmdbaiddkgaaGreatDoor.Print
end
section
namespace Go.Proofs.YtdojmdbaiddkgaaGreatDoor.Print
open Go.RowKit Go.Proofs.YtdojmdbaiddkgaaGreatDoorW.PrintWords Go.Proofs.YtdojmdbaiddkgaaGreatDoorW.PrintLast Go.Proofs.YtdojmdbaiddkgaaGreatDoorW.PrintMore
set_option linter.unusedVariables false
theorem zB {n : Nat} {w w' : World} (h : Below n w w' := by repeat (first | (with_reducible first | exact HB.out | apply below_alloc | apply pw_below_drewN | apply below_drew1 | refine below_set ?_ (Aside0.out (by assumption))) | exact HB.out)) : Below n w w' := h
theorem zD {w w' : World} (h : Drawn0 w w' := by repeat (first | exact Drawn0.refl _ | apply Drawn0.step)) : Drawn0 w w' := h
theorem zE {p : Prop} (h : p := by first | rfl | (simp [errW_none, errW_some] <;> rfl) | (simp [*, errW_none, errW_some] <;> rfl)) : p := h
theorem zS {p : Prop} (h : p := by first | rfl | (simp; done) | (simp [bne_nil_isEmpty, beq_nil_isEmpty]; done) | (simp [*]; done)) : p := h
theorem zA {p : Prop} (h : p := by (try simp only [List.map_toArray, List.map_cons, List.map_nil]); first | done | rfl | (simp only [List.length_drop, List.length_take]; rfl)) : p := h
theorem zX {w w' : World} (h : Below w.heap.size w w' := by (with_reducible repeat (first | apply below_alloc | apply pw_below_drewN | apply below_drew1)); exact Below.refl _ _) : Below w.heap.size w w' := h
theorem zG {w : World} (h : GG w := by first | (with_reducible exact hG) | exact GG.below hG (by repeat (first | (with_reducible first | exact HB.out | apply below_alloc | apply pw_below_drewN | apply below_drew1 | refine below_set ?_ (Aside0.out (by assumption))) | exact HB.out))) : GG w := h
theorem zG2 {w : World} (h : GG w := by repeat (first | (with_reducible exact hG) | apply GG.drewN | apply GG.drew)) : GG w := h
theorem zQ (p : Prop) [Decidable p] (h : decide p = true := by first | (with_reducible assumption) | assumption) : p := of_decide_eq_true h
section
variable {α : Type} {c : Prop} {x y r : α}
theorem zI [Decidable c] (H : (if c then x else y) = r) : c ∧ x = r ∨ ¬ c ∧ y = r := by
  by_cases h : c
  · exact .inl ⟨h, by rwa [if_pos h] at H⟩
  · exact .inr ⟨h, by rwa [if_neg h] at H⟩
theorem zId [Decidable c] (H : (if c then x else y) = r) : c ∧ decide c = true ∧ x = r ∨ ¬ c ∧ decide c = false ∧ y = r := by
  rcases zI H with ⟨h, k⟩ | ⟨h, k⟩
  · exact .inl ⟨h, decide_eq_true h, k⟩
  · exact .inr ⟨h, decide_eq_false h, k⟩
theorem zIe {β : Type} [BEq β] [LawfulBEq β] {a b : β} [Decidable (a = b)] (H : (if a = b then x else y) = r) :
    a = b ∧ (a == b) = true ∧ (a != b) = false ∧ x = r ∨ ¬ a = b ∧ (a == b) = false ∧ (a != b) = true ∧ y = r := by
  rcases zI H with ⟨h, k⟩ | ⟨h, k⟩
  · exact .inl ⟨h, beq_iff_eq.mpr h, bne_eq_false_iff_eq.mpr h, k⟩
  · exact .inr ⟨h, beq_eq_false_iff_ne.mpr h, bne_iff_ne.mpr h, k⟩
theorem zIb {b : Bool} (H : (if b = true then x else y) = r) : b = true ∧ x = r ∨ b = false ∧ y = r := by
  cases b
  · exact .inr ⟨rfl, by rwa [if_neg (by decide)] at H⟩
  · exact .inl ⟨rfl, by rwa [if_pos rfl] at H⟩
theorem zH {p : Prop} (H : x = y) (h : ¬ (x = y) := by simp) : p := absurd H h
end
section
variable {α : Type} {c : Prop} {x : Option α} {r : α}
theorem zJ [Decidable c] (H : (if c then x else none) = some r) : c ∧ x = some r := by
  rcases zI H with h | ⟨_, h⟩
  · exact h
  · cases h
theorem zJd [Decidable c] (H : (if c then x else none) = some r) : c ∧ decide c = true ∧ x = some r := ⟨(zJ H).1, decide_eq_true (zJ H).1, (zJ H).2⟩
end
section
variable {w w1 W : World} {g g' : Nat} {t : TypeId} {a b c d e : Value} {l : List Value} {o : Obj} {n : Nat}
theorem zc0 (h : Aside0 (w.heap[g]? = some (.cells (a :: l).toArray t (0, 0)))) : w.cell? ⟨g, 0, none⟩ = some a := (blk_cell h.out 0).trans rfl
theorem zc1 (h : Aside0 (w.heap[g]? = some (.cells (a :: b :: l).toArray t (0, 0)))) : w.cell? ⟨g, 1, none⟩ = some b := (blk_cell h.out 1).trans rfl
theorem zc2 (h : Aside0 (w.heap[g]? = some (.cells (a :: b :: c :: l).toArray t (0, 0)))) : w.cell? ⟨g, 2, none⟩ = some c := (blk_cell h.out 2).trans rfl
theorem zf {cs : Array Value} (h : Aside0 (w.heap[g]? = some (.cells cs t (0, 0)))) (i : Nat) : w.frozen? ⟨g, i, none⟩ = false := blk_frozen h.out i
theorem zx {p : Addr} {v : Value} (HB : Aside0 (Below w.heap.size w w1)) (h : w.cell? p = some v) : w1.cell? p = some v := (HB.out.cell (World.block_lt_of_cell? w _ h)).trans h
theorem zg (w : World) (hg : g = W.heap.size) (h : Below w.heap.size w W := by repeat (first | (with_reducible first | exact HB.out | apply below_alloc | apply pw_below_drewN | apply below_drew1 | refine below_set ?_ (Aside0.out (by assumption))) | exact HB.out)) : Aside0 (w.heap.size ≤ g) := ⟨hg ▸ h.size⟩
theorem zn (h : Aside0 (w.heap[g']? = some o)) (hg : g = W.heap.size) (hx : Below w.heap.size w W := by (with_reducible repeat (first | apply below_alloc | apply pw_below_drewN | apply below_drew1)); exact Below.refl _ _) : Aside0 (g' ≠ g) := ⟨by rw [hg]; exact Nat.ne_of_lt (blk_lt (blk_below h.out hx))⟩
theorem zm (h : Aside0 (w.heap[g']? = some o)) (hg : g = W.heap.size) (hx : Below w.heap.size w W := by (with_reducible repeat (first | apply below_alloc | apply pw_below_drewN | apply below_drew1)); exact Below.refl _ _) : Aside0 (g ≠ g') := ⟨by rw [hg]; exact Nat.ne_of_gt (blk_lt (blk_below h.out hx))⟩
/-- A block's row behind a call. -/
theorem zb {W W' : World} (h : Aside0 (w.heap[g]? = some o)) (hb : Below W.heap.size W W') (hx : Below w.heap.size w W := by (with_reducible repeat (first | apply below_alloc | apply pw_below_drewN | apply below_drew1)); exact Below.refl _ _) : Aside0 (W'.heap[g]? = some o) := ⟨blk_below (blk_below h.out hx) hb⟩
theorem zw {W W' : World} (hb : Below W.heap.size W W') (h : Below w.heap.size w W := by repeat (first | (with_reducible first | exact HB.out | apply below_alloc | apply pw_below_drewN | apply below_drew1 | refine below_set ?_ (Aside0.out (by assumption))) | exact HB.out)) : Aside0 (Below w.heap.size w W') := ⟨below_step h hb⟩
end
section
variable {P : Program} {ops : Array Oper} {rest : List Oper} {o : Oper} {a : Act} {Q : Exit → Act → World → Prop} {W : World}
theorem zbox {N : Tmp} (cs : Array Value) (t : TypeId)
    (h : ∀ g, g = W.heap.size → ∀ w1, w1.heap[g]? = some (.cells cs t (0, 0)) → Below W.heap.size W w1 → wpList P ops Q rest (a.put o.dst (.pointer (some ⟨g, 0, none⟩))) w1)
    (hgd : o.guard = none := by rfl) (hd : o.dst = some N := by rfl)
    (hrun : (execOp a.eval o).run P W = .ok (.value (.pointer (some ⟨W.heap.size, 0, none⟩))) (W.alloc (.cells cs t (0, 0))) := by first | (go_simp; done) | (go_simp; rfl)) : wpList P ops Q (o :: rest) a W := box_event hgd hd hrun h
end
section
variable {α β : Type}
theorem zO {x : Option α} {f : α → Option β} {r : β} (H : x.bind f = some r) : ∃ a, Aside0 (x = some a) ∧ f a = some r := by
  obtain ⟨a, h, k⟩ := Option.bind_eq_some_iff.mp H
  exact ⟨a, ⟨h⟩, k⟩
end
/-- A row of marks, by a number's bits. -/
def bs (n m : Nat) : Array Bool := ((List.range n).map fun i => m.testBit i).toArray
section
variable {P : Program} {ops : Array Oper} {rest : List Oper} {oi : Oper} {a : Act} {Q : Exit → Act → World → Prop} {w : World} {f : FuncId} {fn : Func} {os : Array Operand} {ts : Array TypeId} {v : Value}
/-- A call by a contract that only draws. -/
theorem zq (N : Tmp) (hf : P.funcs[f]? = some fn) (args : Array Value) (hc : Calls P f args w fun e w' => e = .returned v ∧ Drawn0 w w') (h : ∀ nd, wpList P ops Q rest (a.put (some N) v) (w.drewN nd))
    (hd : oi.dst = some N := by rfl) (hg : oi.guard = none := by rfl) (hname : (fn.name == "runtime.NumGoroutine") = false := by kernel_rfl) (hb : fn.body.isSome = true := by rfl)
    (hop : oi.op = .call { callee := .value (.func f), args := os, argTypes := ts } := by rfl) (hargs : os.map a.eval = args := by (try simp only [List.map_toArray, List.map_cons, List.map_nil]); first | done | rfl | (simp only [List.length_drop, List.length_take]; rfl)) : wpList P ops Q (oi :: rest) a w :=
  goesL_ (some N) hd hg hf hname hb args hop hargs (hc.mono fun e w' ⟨he, ⟨nd, hw⟩⟩ => ⟨v, he, hw ▸ h nd⟩)
/-- .. by a contract that leaves what lies below. -/
theorem zqb (N : Tmp) (hf : P.funcs[f]? = some fn) (args : Array Value) (hc : Calls P f args w fun e w' => e = .returned v ∧ Below w.heap.size w w') (h : ∀ w', Below w.heap.size w w' → wpList P ops Q rest (a.put (some N) v) w')
    (hd : oi.dst = some N := by rfl) (hg : oi.guard = none := by rfl) (hname : (fn.name == "runtime.NumGoroutine") = false := by kernel_rfl) (hb : fn.body.isSome = true := by rfl)
    (hop : oi.op = .call { callee := .value (.func f), args := os, argTypes := ts } := by rfl) (hargs : os.map a.eval = args := by (try simp only [List.map_toArray, List.map_cons, List.map_nil]); first | done | rfl | (simp only [List.length_drop, List.length_take]; rfl)) : wpList P ops Q (oi :: rest) a w :=
  goesL_ (some N) hd hg hf hname hb args hop hargs (hc.mono fun e w' ⟨he, hB⟩ => ⟨v, he, h w' hB⟩)
end
section
variable {P : Program} {ops : Array Oper} {Q : Exit → Act → World → Prop} {md : Region.Mode} {S : World → Prop} {ds : List Nat} {i : Nat} {N : Option Tmp} {oi : Oper} {v : Value} {fuel : Nat} {l : Array Bool} {a a' : Act} {w : World}
theorem zp (i : Nat) (N : Tmp) (l' : Array Bool) (h : wpAnyLast P md ops Q S ds fuel l' a' w) (hi : ops[i]? = some oi := by rfl) (hN : oi.dst = some N := by rfl) (hc : anyB md ops l l' i = true := by exact any_of HT_.out (by kernel_rfl))
    (hQ : ∀ c a w, Q (.panic c) (a.put oi.dst v) w → Q (.panic c) a w := by exact fun _ _ _ h => h) (hy : Yields P ops oi v a := by exact Or.inl ⟨by rfl, by intro w'; go_simp; with_reducible rfl⟩)
    (ha : a.put (some N) v = a' := by simp only [Act.put, List.setIfInBounds_toArray, List.set_cons_zero, List.set_cons_succ, i64_w, i32_w]; rfl) : wpAnyLast P md ops Q S ds (fuel + 1) l a w := pure_ l' hi hN hc hQ hy ha h
theorem zu (i : Nat) (N : Tmp) (l' : Array Bool) (h : wpAnyLast P md ops Q S ds fuel l' a' w) (hi : ops[i]? = some oi := by rfl) (hN : oi.dst = some N := by rfl) (hc : anyB md ops l l' i = true := by exact any_of HT_.out (by kernel_rfl))
    (hQ : ∀ c a w, Q (.panic c) (a.put oi.dst undef) w → Q (.panic c) a w := by exact fun _ _ _ h => h) (hy : Yields P ops oi undef a := by exact Or.inr ⟨by rfl, rfl⟩)
    (ha : a.put (some N) undef = a' := by simp only [Act.put, List.setIfInBounds_toArray, List.set_cons_zero, List.set_cons_succ, i64_w, i32_w]; rfl) : wpAnyLast P md ops Q S ds (fuel + 1) l a w := pure_ l' hi hN hc hQ hy ha h
theorem zt (i : Nat) (N : Tmp) (l' : Array Bool) (h : wpAnyLast P md ops Q S ds fuel l' a' w) (hi : ops[i]? = some oi := by rfl) (hN : oi.dst = some N := by rfl) (hc : takeB md ops ds l l' i = true := by exact take_ofW HT_.out HW_.out (by kernel_rfl))
    (hQ : ∀ c a w, Q (.panic c) (a.put oi.dst v) w → Q (.panic c) a w := by exact fun _ _ _ h => h) (hy : YieldsIf P ops S oi v a := by exact Or.inl ⟨by rfl, by intro w' hs; (repeat (have s_ := And.left hs; replace hs := And.right hs)); go_simp; with_reducible rfl⟩) (hS : S w := by exact hHeld)
    (ha : a.put (some N) v = a' := by simp only [Act.put, List.setIfInBounds_toArray, List.set_cons_zero, List.set_cons_succ, i64_w, i32_w]; rfl) : wpAnyLast P md ops Q S ds (fuel + 1) l a w := take_ l' hi hN hc hQ hy hS ha h
theorem zr (h : wpAnyLast P md ops Q S ds fuel l a' w) (ha : a = a' := by show Act.put _ _ _ = _; simp only [Act.put, List.setIfInBounds_toArray, List.set_cons_zero, List.set_cons_succ, i64_w, i32_w]; rfl) : wpAnyLast P md ops Q S ds fuel l a w := norm_ ha h
end
section
variable {w : World} {g : Nat} {t : TypeId} {a b c d e : Value}
theorem zk2 (h : Aside0 (w.heap[g]? = some (.cells #[a, b] t (0, 0)))) : w.cell? ⟨g, 0, none⟩ = some a ∧ w.cell? ⟨g, 1, none⟩ = some b ∧ w.frozen? ⟨g, 0, none⟩ = false ∧ w.frozen? ⟨g, 1, none⟩ = false := ⟨zc0 h, zc1 h, zf h 0, zf h 1⟩
theorem zk3 (h : Aside0 (w.heap[g]? = some (.cells #[a, b, c] t (0, 0)))) : w.cell? ⟨g, 0, none⟩ = some a ∧ w.cell? ⟨g, 1, none⟩ = some b ∧ w.cell? ⟨g, 2, none⟩ = some c ∧ w.frozen? ⟨g, 0, none⟩ = false ∧ w.frozen? ⟨g, 1, none⟩ = false ∧ w.frozen? ⟨g, 2, none⟩ = false := ⟨zc0 h, zc1 h, zc2 h, zf h 0, zf h 1, zf h 2⟩
end
theorem zbt (s : ByteArray) (i : Int) (h0 : decide (0 ≤ i) = true := by first | (with_reducible assumption) | assumption) (h1 : decide (i < (s.size : Int)) = true := by first | (with_reducible assumption) | assumption) :
    (0 ≤ i) = True ∧ (i < (s.size : Int)) = True ∧ ∀ h : i.toNat < s.size, ((s[i.toNat]'h).toNat : Int) = bt s i := ⟨eq_true (of_decide_eq_true h0), eq_true (of_decide_eq_true h1), bt_at s i⟩
section
variable {α : Type} {c d : Prop} {x : Option α} {r : α}
theorem zJJ [Decidable c] [Decidable d] (H : (if c then (if d then x else none) else none) = some r) : decide c = true ∧ decide d = true ∧ x = some r := ⟨(zJd H).2.1, (zJd (zJ H).2).2.1, (zJ (zJ H).2).2⟩
end
end Go.Proofs.YtdojmdbaiddkgaaGreatDoor.Print
end
section
namespace Go.Proofs.YtdojmdbaiddkgaaGreatDoor.Print
open Go.RowKit Go.Proofs.YtdojmdbaiddkgaaGreatDoorW.PrintWords Go.Proofs.YtdojmdbaiddkgaaGreatDoorW.PrintLast Go.Proofs.YtdojmdbaiddkgaaGreatDoorW.PrintMore
set_option linter.unusedVariables false
set_option linter.unusedSimpArgs false
mutual
def tree_Count.l0 : Nat → Int → List (S31) → Int → Int → Option (Int)
 | 0, _, _, _, _ => none
 | k + 1, x3, x11, x12, x13 => if x13 < x12 then (if 0 ≤ x13 then (if x13 < (x11.length : Int) then ((tree_Count.f k ((rd_T31 x11 x13).f0) ((rd_T31 x11 x13).f1) ((rd_T31 x11 x13).f2)).bind fun t104 => (tree_Count.l0 k (wrap64 (x3 + t104)) x11 x12 (wrap64 (x13 + 1)))) else (none)) else (none)) else (some x3)
def tree_Count.f : Nat → ByteArray → List (S49) → List (S31) → Option (Int)
 | 0, _, _, _ => none
 | k + 1, a0_0, l0_1, l0_2 => tree_Count.l0 k (wrap64 (2 + (l0_1.length : Int))) l0_2 (l0_2.length : Int) 0
end
theorem tree_Count.mono_l : ∀ k, (∀ y0 y1 y2, LeO (tree_Count.f k y0 y1 y2) (tree_Count.f (k + 1) y0 y1 y2)) ∧ (∀ y0 y1 y2 y3, LeO (tree_Count.l0 k y0 y1 y2 y3) (tree_Count.l0 (k + 1) y0 y1 y2 y3))
 | 0 => ⟨fun _ _ _ r h => by simp [tree_Count.f] at h, fun _ _ _ _ r h => by simp [tree_Count.l0] at h⟩
 | k + 1 => by
  obtain ⟨ih0, ih1⟩ := tree_Count.mono_l k
  refine ⟨?_, ?_⟩
  all_goals intros
  all_goals first | unfold tree_Count.f | unfold tree_Count.l0
  all_goals repeat' first
   | (with_reducible first | exact ih0 _ _ _ | exact ih1 _ _ _ _ | exact LeO.refl _ | exact LeO.none _ | refine LeO.ite ?_ ?_ | refine LeO.bind ?_ (fun _ => ?_)) | exact ih0 _ _ _ | exact ih1 _ _ _ _ | exact LeO.none _ | refine LeO.ite ?_ ?_ | refine LeO.bind ?_ (fun _ => ?_)
theorem tree_Count.mono : ∀ a0 a1 a2 k, LeO (tree_Count.f k a0 a1 a2) (tree_Count.f (k + 1) a0 a1 a2) := by
 intro a0 a1 a2 k
 obtain ⟨ih0, ih1⟩ := tree_Count.mono_l k
 exact ih0 a0 a1 a2
set_option maxHeartbeats 8000000 in
set_option maxRecDepth 100000 in
theorem tree_Count.calls (k : Nat) : ∀ (a0_0 : ByteArray) (A0_1 : Option Addr) (c0_1 : Nat) (l0_1 : List (S49)) (A0_2 : Option Addr) (c0_2 : Nat) (l0_2 : List (S31)) (r : Int) (w : World) (hG : GG w) (hr0_1 : Kd.C k49 w A0_1 l0_1.length l0_1) (hc0_1 : l0_1.length ≤ c0_1) (hr0_2 : Kd.C k31 w A0_2 l0_2.length l0_2) (hc0_2 : l0_2.length ≤ c0_2) (h : tree_Count.f k a0_0 l0_1 l0_2 = some r),
  Calls Tryz.prog 13 #[.agg #[.string a0_0, .slice A0_1 l0_1.length c0_1, .slice A0_2 l0_2.length c0_2]] w fun e w' => e = .returned (.int .i64 r) ∧ Below w.heap.size w w' := by
 induction k using Nat.strongRecOn with
 | _ k ih =>
 intro a0_0 A0_1 c0_1 l0_1 A0_2 c0_2 l0_2 r w hG hr0_1 hc0_1 hr0_2 hc0_2 h
 cases k with
 | zero => exact absurd h (by simp [tree_Count.f])
 | succ k =>
 simp only [tree_Count.f] at h; have hu31 := Tryz.underlying31; have HR0_1 := Aside0.mk hr0_1; have HC0_1 := Aside0.mk hc0_1; clear hr0_1 hc0_1; have HR0_2 := Aside0.mk hr0_2; have HC0_2 := Aside0.mk hc0_2; clear hr0_2 hc0_2; have HB := Aside0.mk (Below.refl w.heap.size w); have H : (tree_Count.l0 k (wrap64 (2 + (l0_1.length : Int))) l0_2 (l0_2.length : Int) 0) = some r := h; clear h; have H' := Aside0.mk H; clear H
 go_enter Tryz.func13, Tryz.ntmps13
 go_wp2_with (first | ((with_reducible refine gate_dst (N := 1) rfl ?_); refine zbox (N := 1) #[.string a0_0, .slice A0_1 l0_1.length c0_1, .slice A0_2 l0_2.length c0_2] 31 (fun gb101 hg w2 hbox hb => ?_); replace BK101 := Aside0.mk hbox; replace GE101 := zg w hg; replace HB := zw hb; clear hb hbox hg; obtain ⟨hcz3_0, hcz3_1, hcz3_2, hfz3_0, hfz3_1, hfz3_2⟩ := zk3 BK101))
 go_loopg [3, 13] k (fun kq v3 v13 w' => ∃ (x3_1 : Int) (x13_1 : Int), v3 = .int .i64 x3_1 ∧ v13 = .int .i64 x13_1 ∧ Aside0 (tree_Count.l0 kq x3_1 l0_2 (l0_2.length : Int) x13_1 = some r) ∧ Aside0 (kq ≤ k) ∧ Aside0 (w'.heap[gb101]? = some (.cells #[.string a0_0, (.slice A0_1 l0_1.length c0_1), (.slice A0_2 l0_2.length c0_2)] 31 (0, 0))) ∧ Aside0 (Below w.heap.size w w'))
 case atStart => exact ⟨(wrap64 (2 + (l0_1.length : Int))), (0), zS, zS, H', ⟨Nat.le_refl _⟩, ⟨blk_below BK101.out zX⟩, ⟨zB⟩⟩
 case round =>
  clear H'; clear hcz3_0 hcz3_1 hcz3_2 hfz3_0 hfz3_1 hfz3_2; obtain ⟨x3_1, x13_1, rfl, rfl, HA, HK1, BK101, HB⟩ := hrel
  cases gk with
  | zero => exact absurd HA.out (by simp [tree_Count.l0])
  | succ k1 =>
   have H := HA.out; clear HA; simp only [tree_Count.l0] at H; replace H := zId H; rcases H with ⟨-, c4b0, H⟩ | ⟨-, c4b0, H⟩
   ·replace H := zJJ H; obtain ⟨c5b0, c6b0, H⟩ := H; replace H := zO H; obtain ⟨t104, A7, H⟩ := H; have H' := Aside0.mk H; clear H; have p102 := zQ (0 ≤ (x13_1 : Int)); have q102 := zQ (x13_1 < (l0_2.length : Int)); obtain ⟨ad102, A102_1, c102_1, A102_2, c102_2, e102, hx102_0, hx102_1, hx102_2, hl102_1, hi102_1, hl102_2, hi102_2⟩ := at_T31 HR0_2.out x13_1 p102 q102
    cases e102
    replace hx102_0 := zx HB hx102_0; replace hx102_1 := zx HB hx102_1; replace hx102_2 := zx HB hx102_2; have HR102_1 := Aside0.mk hi102_1; have HC102_1 := Aside0.mk hl102_1; clear hi102_1 hl102_1; have HR102_2 := Aside0.mk hi102_2; have HC102_2 := Aside0.mk hl102_2; clear hi102_2 hl102_2; replace p102 := eq_true p102; replace q102 := eq_true q102
    go_wp2_with (first | ((with_reducible refine gate_dst (N := 5) rfl ?_); refine zbox (N := 5) #[.string (⟨#[]⟩ : ByteArray), .slice none 0 0, .slice none 0 0] 31 (fun gb103 hg w8 hbox hb => ?_); replace BK103 := Aside0.mk hbox; replace GE103 := zg w hg; replace HB := zw hb; replace NB101_103 := zn BK101 hg; replace NB103_101 := zm BK101 hg; replace BK101 := zb BK101 hb; clear hb hbox hg; have hnb9 := NB103_101.out; have hnc9 := NB101_103.out; obtain ⟨hcz10_0, hcz10_1, hcz10_2, hfz10_0, hfz10_1, hfz10_2⟩ := zk3 BK103) | ((with_reducible refine gate_callee (f := 13) rfl ?_); refine goesL_ (some 19) rfl rfl Tryz.func13 (by kernel_rfl) rfl #[.agg #[.string ((rd_T31 l0_2 x13_1).f0), .slice A102_1 ((rd_T31 l0_2 x13_1).f1).length c102_1, .slice A102_2 ((rd_T31 l0_2 x13_1).f2).length c102_2]] rfl zA ?_; (with_reducible refine (ih k1 (by have := HK1.out; omega) ((rd_T31 l0_2 x13_1).f0) _ _ ((rd_T31 l0_2 x13_1).f1) _ _ ((rd_T31 l0_2 x13_1).f2) t104 _ zG ?side1 ?side2 ?side3 ?side4 A7.out).mono ?_); (case side1 => exact Kd.C_below HR102_1.out zB); (case side2 => exact HC102_1.out); (case side3 => exact Kd.C_below HR102_2.out zB); (case side4 => exact HC102_2.out); rintro e w11 ⟨rfl, hb⟩; refine ⟨_, rfl, ?_⟩; replace BK101 := Aside0.mk (blk_below (g := gb101) (o := .cells #[.string a0_0, .slice A0_1 l0_1.length c0_1, .slice (some ad102) l0_2.length c0_2] 31 (0, 0)) (by (with_reducible repeat (first | refine blk_drewN ?_ _ | refine blk_drew ?_ | refine blk_alloc ?_ _)); refine blk_far ?_ NB101_103.out _; (with_reducible repeat (first | refine blk_drewN ?_ _ | refine blk_drew ?_ | refine blk_alloc ?_ _)); refine blk_far ?_ NB101_103.out _; (with_reducible repeat (first | refine blk_drewN ?_ _ | refine blk_drew ?_ | refine blk_alloc ?_ _)); refine blk_far ?_ NB101_103.out _; (with_reducible repeat (first | refine blk_drewN ?_ _ | refine blk_drew ?_ | refine blk_alloc ?_ _)); exact BK101.out) hb); replace BK103 := Aside0.mk (blk_below (g := gb103) (o := .cells #[.string ((rd_T31 l0_2 x13_1).f0), .slice A102_1 ((rd_T31 l0_2 x13_1).f1).length c102_1, .slice A102_2 ((rd_T31 l0_2 x13_1).f2).length c102_2] 31 (0, 0)) (by (with_reducible repeat (first | refine blk_drewN ?_ _ | refine blk_drew ?_ | refine blk_alloc ?_ _)); refine blk_put (cs := #[.string ((rd_T31 l0_2 x13_1).f0), .slice A102_1 ((rd_T31 l0_2 x13_1).f1).length c102_1, .slice none 0 0]) ?_ 2 _ rfl; (with_reducible repeat (first | refine blk_drewN ?_ _ | refine blk_drew ?_ | refine blk_alloc ?_ _)); refine blk_put (cs := #[.string ((rd_T31 l0_2 x13_1).f0), .slice none 0 0, .slice none 0 0]) ?_ 1 _ rfl; (with_reducible repeat (first | refine blk_drewN ?_ _ | refine blk_drew ?_ | refine blk_alloc ?_ _)); refine blk_put (cs := #[.string (⟨#[]⟩ : ByteArray), .slice none 0 0, .slice none 0 0]) ?_ 0 _ rfl; (with_reducible repeat (first | refine blk_drewN ?_ _ | refine blk_drew ?_ | refine blk_alloc ?_ _)); exact BK103.out) hb); replace HB := zw hb; clear hb))
    go_roundg k1
    case measure => have := HK1.out; omega
    case rel => exact ⟨(wrap64 (x3_1 + t104)), (wrap64 (x13_1 + 1)), zS, zS, H', ⟨by have := HK1.out; omega⟩, ⟨blk_below BK101.out zX⟩, ⟨zB⟩⟩
   ·obtain rfl := Option.some.inj H; go_wp2; go_ret; exact ⟨zE, zB⟩
def fold_goesOn.f (a0 : Int) : Option (Bool) := if a0 = 32 then (some true) else (some (a0 == 9))
set_option maxHeartbeats 8000000 in
set_option maxRecDepth 100000 in
theorem fold_goesOn.calls (a0 : Int) (r : Bool) (w : World) (hG : GG w) (h : fold_goesOn.f a0 = some r) :
  Calls Tryz.prog 37 #[.int .u8 a0] w fun e w' => e = .returned (.bool r) ∧ Drawn0 w w' := by
 have H : (if a0 = 32 then (some true) else (some (a0 == 9))) = some r := h; clear h; replace H := zIe H; rcases H with ⟨-, c2b0, c2b1, H⟩ | ⟨c2, c2b0, c2b1, H⟩
 ·obtain rfl := Option.some.inj H
  go_enter Tryz.func37, Tryz.ntmps37
  go_wp2; go_ret
  exact ⟨zS, zD⟩
 ·obtain rfl := Option.some.inj H
  go_enter Tryz.func37, Tryz.ntmps37
  go_wp2; go_ret
  exact ⟨zS, zD⟩
def stringslite_HasSuffix.f (a0 : ByteArray) (a1 : ByteArray) : Option (Bool) := if (a0.size : Int) ≥ (a1.size : Int) then (if 0 ≤ (wrap64 ((a0.size : Int) - (a1.size : Int))) then (if (wrap64 ((a0.size : Int) - (a1.size : Int))) ≤ (a0.size : Int) then (some ((a0.extract ((wrap64 ((a0.size : Int) - (a1.size : Int))) : Int).toNat a0.size).toList == a1.toList)) else (none)) else (none)) else (some false)
set_option maxHeartbeats 8000000 in
set_option maxRecDepth 100000 in
theorem stringslite_HasSuffix.calls (a0 : ByteArray) (a1 : ByteArray) (r : Bool) (w : World) (hG : GG w) (h : stringslite_HasSuffix.f a0 a1 = some r) :
  Calls Tryz.prog 108 #[.string a0, .string a1] w fun e w' => e = .returned (.bool r) ∧ Drawn0 w w' := by
 have H : (if (a0.size : Int) ≥ (a1.size : Int) then (if 0 ≤ (wrap64 ((a0.size : Int) - (a1.size : Int))) then (if (wrap64 ((a0.size : Int) - (a1.size : Int))) ≤ (a0.size : Int) then (some ((a0.extract ((wrap64 ((a0.size : Int) - (a1.size : Int))) : Int).toNat a0.size).toList == a1.toList)) else (none)) else (none)) else (some false)) = some r := h; clear h; replace H := zI H; rcases H with ⟨c3, H⟩ | ⟨c3, H⟩
 ·have c3b0 : decide ((a1.size : Int) ≤ (a0.size : Int)) = true := decide_eq_true c3; have c3b1 : decide (a1.size ≤ a0.size) = true := decide_eq_true (Int.ofNat_le.mp c3); clear c3; obtain ⟨ji4, hji4⟩ : ∃ j_ : Int, (wrap64 ((a0.size : Int) - (a1.size : Int))) = j_ := ⟨_, rfl⟩; replace H : (if 0 ≤ (ji4) then (if (ji4) ≤ (a0.size : Int) then (some ((a0.extract ((ji4) : Int).toNat a0.size).toList == a1.toList)) else (none)) else (none)) = some r := by first | (rw [hji4] at H; exact H) | (simp only [hji4] at H ⊢; exact H)
  have hji4w : (IntKind.i64.wrap ((a0.size : Int) - (a1.size : Int))) = ji4 := (i64_w _).trans hji4; replace H := zJ H; obtain ⟨c5, H⟩ := H; have c5b0 := eq_true c5; have c5b1 : decide (0 ≤ (ji4)) = true := decide_eq_true c5; clear c5; replace H := zJ H; obtain ⟨c6, H⟩ := H; have c6b0 := eq_true c6; have c6b1 : decide ((ji4) ≤ (a0.size : Int)) = true := decide_eq_true c6; clear c6; obtain rfl := Option.some.inj H
  go_enter Tryz.func108, Tryz.ntmps108
  go_wp2; go_ret
  exact ⟨by first | rfl | (simp; done) | (simp only [← hji4] <;> (first | rfl | simp)) | (simp [*]; done), zD⟩
 ·have c3b0 : decide ((a1.size : Int) ≤ (a0.size : Int)) = false := decide_eq_false c3; have c3b1 : decide (a1.size ≤ a0.size) = false := decide_eq_false (fun h => c3 (Int.ofNat_le.mpr h)); clear c3; obtain rfl := Option.some.inj H
  go_enter Tryz.func108, Tryz.ntmps108
  go_wp2; go_ret
  exact ⟨zS, zD⟩
def stringslite_TrimSuffix.f (a0 : ByteArray) (a1 : ByteArray) : Option (ByteArray) := (stringslite_HasSuffix.f a0 a1).bind fun t105 => (if t105 = true then (if 0 ≤ (wrap64 ((a0.size : Int) - (a1.size : Int))) then (if (wrap64 ((a0.size : Int) - (a1.size : Int))) ≤ (a0.size : Int) then (some (a0.extract 0 ((wrap64 ((a0.size : Int) - (a1.size : Int))) : Int).toNat)) else (none)) else (none)) else (some a0))
set_option maxHeartbeats 8000000 in
set_option maxRecDepth 100000 in
theorem stringslite_TrimSuffix.calls (a0 : ByteArray) (a1 : ByteArray) (r : ByteArray) (w : World) (hG : GG w) (h : stringslite_TrimSuffix.f a0 a1 = some r) :
  Calls Tryz.prog 101 #[.string a0, .string a1] w fun e w' => e = .returned (.string r) ∧ Drawn0 w w' := by
 have H : ((stringslite_HasSuffix.f a0 a1).bind fun t105 => (if t105 = true then (if 0 ≤ (wrap64 ((a0.size : Int) - (a1.size : Int))) then (if (wrap64 ((a0.size : Int) - (a1.size : Int))) ≤ (a0.size : Int) then (some (a0.extract 0 ((wrap64 ((a0.size : Int) - (a1.size : Int))) : Int).toNat)) else (none)) else (none)) else (some a0))) = some r := h; clear h; replace H := zO H; obtain ⟨t105, A3, H⟩ := H; replace H := zIb H; rcases H with ⟨rfl, H⟩ | ⟨rfl, H⟩
 ·obtain ⟨ji5, hji5⟩ : ∃ j_ : Int, (wrap64 ((a0.size : Int) - (a1.size : Int))) = j_ := ⟨_, rfl⟩; replace H : (if 0 ≤ (ji5) then (if (ji5) ≤ (a0.size : Int) then (some (a0.extract 0 ((ji5) : Int).toNat)) else (none)) else (none)) = some r := by first | (rw [hji5] at H; exact H) | (simp only [hji5] at H ⊢; exact H)
  (try rw [hji5] at A3); have hji5w : (IntKind.i64.wrap ((a0.size : Int) - (a1.size : Int))) = ji5 := (i64_w _).trans hji5; replace H := zJ H; obtain ⟨c6, H⟩ := H; have c6b0 := eq_true c6; have c6b1 : decide (0 ≤ (ji5)) = true := decide_eq_true c6; clear c6; replace H := zJ H; obtain ⟨c7, H⟩ := H; have c7b0 := eq_true c7; have c7b1 : decide ((ji5) ≤ (a0.size : Int)) = true := decide_eq_true c7; clear c7; obtain rfl := Option.some.inj H
  go_enter Tryz.func101, Tryz.ntmps101
  go_wp2_with (first | ((with_reducible refine gate_callee (f := 108) rfl ?_); refine zq 7 Tryz.func108 #[.string a0, .string a1] (stringslite_HasSuffix.calls a0 a1 true _ zG2 A3.out) (fun nd => ?_)))
  go_ret; exact ⟨by first | rfl | (simp; done) | (simp only [← hji5] <;> (first | rfl | simp)) | (simp [*]; done), zD⟩
 ·obtain rfl := Option.some.inj H
  go_enter Tryz.func101, Tryz.ntmps101
  go_wp2_with (first | ((with_reducible refine gate_callee (f := 108) rfl ?_); refine zq 7 Tryz.func108 #[.string a0, .string a1] (stringslite_HasSuffix.calls a0 a1 false _ zG2 A3.out) (fun nd => ?_)))
  go_ret; exact ⟨zS, zD⟩
def strings_TrimSuffix.f (a0 : ByteArray) (a1 : ByteArray) : Option (ByteArray) := (stringslite_TrimSuffix.f a0 a1).bind fun t106 => (some t106)
set_option maxHeartbeats 8000000 in
set_option maxRecDepth 100000 in
theorem strings_TrimSuffix.calls (a0 : ByteArray) (a1 : ByteArray) (r : ByteArray) (w : World) (hG : GG w) (h : strings_TrimSuffix.f a0 a1 = some r) :
  Calls Tryz.prog 91 #[.string a0, .string a1] w fun e w' => e = .returned (.string r) ∧ Drawn0 w w' := by
 have H : ((stringslite_TrimSuffix.f a0 a1).bind fun t106 => (some t106)) = some r := h; clear h; replace H := zO H; obtain ⟨t106, A3, H⟩ := H; obtain rfl := Option.some.inj H
 go_enter Tryz.func91, Tryz.ntmps91
 go_wp2_with (first | ((with_reducible refine gate_callee (f := 101) rfl ?_); refine zq 7 Tryz.func101 #[.string a0, .string a1] (stringslite_TrimSuffix.calls a0 a1 t106 _ zG2 A3.out) (fun nd => ?_)))
 go_ret; exact ⟨zS, zD⟩
def fold_piece.f (a0 : ByteArray) : Option (ByteArray × ByteArray × Bool) := (strings_IndexByte.f a0 10).bind fun t107 => (if t107 < 0 then (some ((⟨#[]⟩ : ByteArray), (⟨#[]⟩ : ByteArray), false)) else (if 0 ≤ t107 then (if t107 ≤ (a0.size : Int) then ((strings_TrimSuffix.f (a0.extract 0 (t107 : Int).toNat) (⟨#[13]⟩ : ByteArray)).bind fun t108 => (if 0 ≤ (wrap64 (t107 + 1)) then (if (wrap64 (t107 + 1)) ≤ (a0.size : Int) then (if t108.toList = ([] : List UInt8) then (some (t108, a0.extract ((wrap64 (t107 + 1)) : Int).toNat a0.size, false)) else ((strings_ContainsRune.f t108 13).bind fun t109 => (some (t108, a0.extract ((wrap64 (t107 + 1)) : Int).toNat a0.size, !t109)))) else (none)) else (none))) else (none)) else (none)))
set_option maxHeartbeats 8000000 in
set_option maxRecDepth 100000 in
theorem fold_piece.calls (a0 : ByteArray) (r1 : ByteArray) (r2 : ByteArray) (r3 : Bool) (w : World) (hG : GG w) (h : fold_piece.f a0 = some (r1, r2, r3)) :
  Calls Tryz.prog 75 #[.string a0] w fun e w' => e = .returned (.tuple #[.string r1, .string r2, .bool r3]) ∧ Drawn0 w w' := by
 have H : ((strings_IndexByte.f a0 10).bind fun t107 => (if t107 < 0 then (some ((⟨#[]⟩ : ByteArray), (⟨#[]⟩ : ByteArray), false)) else (if 0 ≤ t107 then (if t107 ≤ (a0.size : Int) then ((strings_TrimSuffix.f (a0.extract 0 (t107 : Int).toNat) (⟨#[13]⟩ : ByteArray)).bind fun t108 => (if 0 ≤ (wrap64 (t107 + 1)) then (if (wrap64 (t107 + 1)) ≤ (a0.size : Int) then (if t108.toList = ([] : List UInt8) then (some (t108, a0.extract ((wrap64 (t107 + 1)) : Int).toNat a0.size, false)) else ((strings_ContainsRune.f t108 13).bind fun t109 => (some (t108, a0.extract ((wrap64 (t107 + 1)) : Int).toNat a0.size, !t109)))) else (none)) else (none))) else (none)) else (none)))) = some (r1, r2, r3) := h; clear h; replace H := zO H; obtain ⟨t107, A2, H⟩ := H; replace H := zId H; rcases H with ⟨-, c3b0, H⟩ | ⟨-, c3b0, H⟩
 ·simp only [Option.some.injEq, Prod.mk.injEq] at H; obtain ⟨rfl, rfl, rfl⟩ := H
  go_enter Tryz.func75, Tryz.ntmps75
  iterate 5 (first | go_quiet (first | (go_at_call 90; (with_reducible refine (strings_IndexByte.calls a0 10 t107 _ zG2 A2.out).mono ?_); rintro e w' ⟨rfl, ⟨nd, rfl⟩⟩; (try first | exact ⟨rfl, _, World.drewN_drewN _ _ _⟩ | exact ⟨rfl, _, Eq.trans (World.drewN_drewN _ _ _) (congrArg (World.drewN _) (Nat.add_assoc _ _ _))⟩))) | go_wp2_with (first | (go_at_call 90; (with_reducible refine (strings_IndexByte.calls a0 10 t107 _ zG2 A2.out).mono ?_); rintro e w' ⟨rfl, ⟨nd, rfl⟩⟩; (try first | exact ⟨rfl, _, World.drewN_drewN _ _ _⟩ | exact ⟨rfl, _, Eq.trans (World.drewN_drewN _ _ _) (congrArg (World.drewN _) (Nat.add_assoc _ _ _))⟩))))
  go_ret3
  exact ⟨zS, zD⟩
 ·replace H := zI H; rcases H with ⟨c4, H⟩ | ⟨c4, H⟩
  ·have c4b0 := eq_true c4; have c4b1 : decide (0 ≤ t107) = true := decide_eq_true c4; clear c4; replace H := zJ H; obtain ⟨c5, H⟩ := H; have c5b0 := eq_true c5; have c5b1 : decide (t107 ≤ (a0.size : Int)) = true := decide_eq_true c5; clear c5; replace H := zO H; obtain ⟨t108, A6, H⟩ := H; obtain ⟨ji7, hji7⟩ : ∃ j_ : Int, (wrap64 (t107 + 1)) = j_ := ⟨_, rfl⟩; replace H : (if 0 ≤ (ji7) then (if (ji7) ≤ (a0.size : Int) then (if t108.toList = ([] : List UInt8) then (some (t108, a0.extract ((ji7) : Int).toNat a0.size, false)) else ((strings_ContainsRune.f t108 13).bind fun t109 => (some (t108, a0.extract ((ji7) : Int).toNat a0.size, !t109)))) else (none)) else (none)) = some (r1, r2, r3) := by first | (rw [hji7] at H; exact H) | (simp only [hji7] at H ⊢; exact H)
   (try rw [hji7] at A2); (try rw [hji7] at A6); have hji7w : (IntKind.i64.wrap (t107 + 1)) = ji7 := (i64_w _).trans hji7; replace H := zJ H; obtain ⟨c8, H⟩ := H; have c8b0 := eq_true c8; have c8b1 : decide (0 ≤ (ji7)) = true := decide_eq_true c8; clear c8; replace H := zJ H; obtain ⟨c9, H⟩ := H; have c9b0 := eq_true c9; have c9b1 : decide ((ji7) ≤ (a0.size : Int)) = true := decide_eq_true c9; clear c9; replace H := zIe H; rcases H with ⟨-, c10b0, c10b1, H⟩ | ⟨c10, c10b0, c10b1, H⟩
   ·simp only [Option.some.injEq, Prod.mk.injEq] at H; obtain ⟨rfl, rfl, rfl⟩ := H
    go_enter Tryz.func75, Tryz.ntmps75
    iterate 5 (first | go_quiet (first | (go_at_call 90; (with_reducible refine (strings_IndexByte.calls a0 10 t107 _ zG2 A2.out).mono ?_); rintro e w' ⟨rfl, ⟨nd, rfl⟩⟩; (try first | exact ⟨rfl, _, World.drewN_drewN _ _ _⟩ | exact ⟨rfl, _, Eq.trans (World.drewN_drewN _ _ _) (congrArg (World.drewN _) (Nat.add_assoc _ _ _))⟩)) | (go_at_call 91; (with_reducible refine (strings_TrimSuffix.calls (a0.extract 0 (t107 : Int).toNat) (⟨#[13]⟩ : ByteArray) t108 _ zG2 A6.out).mono ?_); rintro e w' ⟨rfl, ⟨nd, rfl⟩⟩; (try first | exact ⟨rfl, _, World.drewN_drewN _ _ _⟩ | exact ⟨rfl, _, Eq.trans (World.drewN_drewN _ _ _) (congrArg (World.drewN _) (Nat.add_assoc _ _ _))⟩))) | go_wp2_with (first | (go_at_call 90; (with_reducible refine (strings_IndexByte.calls a0 10 t107 _ zG2 A2.out).mono ?_); rintro e w' ⟨rfl, ⟨nd, rfl⟩⟩; (try first | exact ⟨rfl, _, World.drewN_drewN _ _ _⟩ | exact ⟨rfl, _, Eq.trans (World.drewN_drewN _ _ _) (congrArg (World.drewN _) (Nat.add_assoc _ _ _))⟩)) | (go_at_call 91; (with_reducible refine (strings_TrimSuffix.calls (a0.extract 0 (t107 : Int).toNat) (⟨#[13]⟩ : ByteArray) t108 _ zG2 A6.out).mono ?_); rintro e w' ⟨rfl, ⟨nd, rfl⟩⟩; (try first | exact ⟨rfl, _, World.drewN_drewN _ _ _⟩ | exact ⟨rfl, _, Eq.trans (World.drewN_drewN _ _ _) (congrArg (World.drewN _) (Nat.add_assoc _ _ _))⟩))))
    go_ret3
    exact ⟨by first | rfl | (simp; done) | (simp only [← hji7] <;> (first | rfl | simp)) | (simp [*]; done), zD⟩
   ·replace H := zO H; obtain ⟨t109, A11, H⟩ := H; simp only [Option.some.injEq, Prod.mk.injEq] at H; obtain ⟨rfl, rfl, rfl⟩ := H
    go_enter Tryz.func75, Tryz.ntmps75
    iterate 5 (first | go_quiet (first | (go_at_call 90; (with_reducible refine (strings_IndexByte.calls a0 10 t107 _ zG2 A2.out).mono ?_); rintro e w' ⟨rfl, ⟨nd, rfl⟩⟩; (try first | exact ⟨rfl, _, World.drewN_drewN _ _ _⟩ | exact ⟨rfl, _, Eq.trans (World.drewN_drewN _ _ _) (congrArg (World.drewN _) (Nat.add_assoc _ _ _))⟩)) | (go_at_call 91; (with_reducible refine (strings_TrimSuffix.calls (a0.extract 0 (t107 : Int).toNat) (⟨#[13]⟩ : ByteArray) t108 _ zG2 A6.out).mono ?_); rintro e w' ⟨rfl, ⟨nd, rfl⟩⟩; (try first | exact ⟨rfl, _, World.drewN_drewN _ _ _⟩ | exact ⟨rfl, _, Eq.trans (World.drewN_drewN _ _ _) (congrArg (World.drewN _) (Nat.add_assoc _ _ _))⟩)) | (go_at_call 92; (with_reducible refine (strings_ContainsRune.calls t108 13 t109 _ zG2 A11.out).mono ?_); rintro e w' ⟨rfl, ⟨nd, rfl⟩⟩; (try first | exact ⟨rfl, _, World.drewN_drewN _ _ _⟩ | exact ⟨rfl, _, Eq.trans (World.drewN_drewN _ _ _) (congrArg (World.drewN _) (Nat.add_assoc _ _ _))⟩))) | go_wp2_with (first | (go_at_call 90; (with_reducible refine (strings_IndexByte.calls a0 10 t107 _ zG2 A2.out).mono ?_); rintro e w' ⟨rfl, ⟨nd, rfl⟩⟩; (try first | exact ⟨rfl, _, World.drewN_drewN _ _ _⟩ | exact ⟨rfl, _, Eq.trans (World.drewN_drewN _ _ _) (congrArg (World.drewN _) (Nat.add_assoc _ _ _))⟩)) | (go_at_call 91; (with_reducible refine (strings_TrimSuffix.calls (a0.extract 0 (t107 : Int).toNat) (⟨#[13]⟩ : ByteArray) t108 _ zG2 A6.out).mono ?_); rintro e w' ⟨rfl, ⟨nd, rfl⟩⟩; (try first | exact ⟨rfl, _, World.drewN_drewN _ _ _⟩ | exact ⟨rfl, _, Eq.trans (World.drewN_drewN _ _ _) (congrArg (World.drewN _) (Nat.add_assoc _ _ _))⟩)) | (go_at_call 92; (with_reducible refine (strings_ContainsRune.calls t108 13 t109 _ zG2 A11.out).mono ?_); rintro e w' ⟨rfl, ⟨nd, rfl⟩⟩; (try first | exact ⟨rfl, _, World.drewN_drewN _ _ _⟩ | exact ⟨rfl, _, Eq.trans (World.drewN_drewN _ _ _) (congrArg (World.drewN _) (Nat.add_assoc _ _ _))⟩))))
    go_ret3
    exact ⟨by first | rfl | (simp; done) | (simp only [← hji7] <;> (first | rfl | simp)) | (simp [*]; done), zD⟩
  ·exact zH H
mutual
def fold_cut.l0 : Nat → ByteArray → List (S95) → Int → Option ((List (S95)) × Int)
 | 0, _, _, _ => none
 | k + 1, x0, x4, x5 => if x0.toList = ([] : List UInt8) then (some (x4, 0)) else ((fold_piece.f x0).bind fun bt110 => (if bt110.2.2 = true then (if 0 < (bt110.1.size : Int) then ((fold_goesOn.f (bt bt110.1 0)).bind fun t113 => (fold_cut.j1 k x4 x5 bt110.1 bt110.2.1 bt110.2.2 t113)) else (none)) else (fold_cut.j1 k x4 x5 bt110.1 bt110.2.1 bt110.2.2 false)))
def fold_cut.j1 : Nat → List (S95) → Int → ByteArray → ByteArray → Bool → Bool → Option ((List (S95)) × Int)
 | 0, _, _, _, _, _, _ => none
 | k + 1, x4, x5, x6, x7, x8, x9 => if x8 = true then (if x9 = true then (fold_cut.j2 k x4 x5 x6 x7 x9 ((x4.length : Int) == 0)) else (fold_cut.j2 k x4 x5 x6 x7 x9 false)) else (fold_cut.j2 k x4 x5 x6 x7 x9 true)
def fold_cut.j2 : Nat → List (S95) → Int → ByteArray → ByteArray → Bool → Bool → Option ((List (S95)) × Int)
 | 0, _, _, _, _, _, _ => none
 | k + 1, x4, x5, x6, x7, x9, x35 => if x35 = true then (some (([] : List (S95)), x5)) else (if x9 = true then (if 0 ≤ (wrap64 ((x4.length : Int) - 1)) then (if (wrap64 ((x4.length : Int) - 1)) < (x4.length : Int) then (if 1 ≤ (x6.size : Int) then (if ((rd_T95 x4 (wrap64 ((x4.length : Int) - 1))).f0).size + (x6.extract 1 x6.size).size ≤ 9223372036854775807 then (fold_cut.l0 k x7 (x4.set ((wrap64 ((x4.length : Int) - 1)) : Int).toNat (⟨((rd_T95 x4 (wrap64 ((x4.length : Int) - 1))).f0) ++ (x6.extract 1 x6.size), (rd_T95 x4 (wrap64 ((x4.length : Int) - 1))).f1⟩ : S95)) (wrap64 (x5 + 1))) else (none)) else (none)) else (none)) else (none)) else (if x4.length < 5864062014805 then (fold_cut.l0 k x7 (x4 ++ [(⟨x6, x5⟩ : S95)]) (wrap64 (x5 + 1))) else (none)))
end
def fold_cut.f (k : Nat) (a0 : ByteArray) : Option ((List (S95)) × Int) := fold_cut.l0 k a0 ([] : List (S95)) 1
theorem fold_cut.mono_l : ∀ k, (∀ y0 y1 y2, LeO (fold_cut.l0 k y0 y1 y2) (fold_cut.l0 (k + 1) y0 y1 y2)) ∧ (∀ y0 y1 y2 y3 y4 y5, LeO (fold_cut.j1 k y0 y1 y2 y3 y4 y5) (fold_cut.j1 (k + 1) y0 y1 y2 y3 y4 y5)) ∧ (∀ y0 y1 y2 y3 y4 y5, LeO (fold_cut.j2 k y0 y1 y2 y3 y4 y5) (fold_cut.j2 (k + 1) y0 y1 y2 y3 y4 y5))
 | 0 => ⟨fun _ _ _ r h => by simp [fold_cut.l0] at h, fun _ _ _ _ _ _ r h => by simp [fold_cut.j1] at h, fun _ _ _ _ _ _ r h => by simp [fold_cut.j2] at h⟩
 | k + 1 => by
  obtain ⟨ih0, ih1, ih2⟩ := fold_cut.mono_l k
  refine ⟨?_, ?_, ?_⟩
  all_goals intros
  all_goals first | unfold fold_cut.l0 | unfold fold_cut.j1 | unfold fold_cut.j2
  all_goals repeat' first
   | (with_reducible first | exact ih0 _ _ _ | exact ih1 _ _ _ _ _ _ | exact ih2 _ _ _ _ _ _ | exact LeO.refl _ | exact LeO.none _ | refine LeO.ite ?_ ?_ | refine LeO.bind ?_ (fun _ => ?_)) | exact ih0 _ _ _ | exact ih1 _ _ _ _ _ _ | exact ih2 _ _ _ _ _ _ | exact LeO.none _ | refine LeO.ite ?_ ?_ | refine LeO.bind ?_ (fun _ => ?_)
theorem fold_cut.mono : ∀ a0 k, LeO (fold_cut.f k a0) (fold_cut.f (k + 1) a0) := by
 intro a0 k
 obtain ⟨ih0, ih1, ih2⟩ := fold_cut.mono_l k
 unfold fold_cut.f
 repeat' first
   | (with_reducible first | exact ih0 _ _ _ | exact ih1 _ _ _ _ _ _ | exact ih2 _ _ _ _ _ _ | exact LeO.refl _ | exact LeO.none _ | refine LeO.ite ?_ ?_ | refine LeO.bind ?_ (fun _ => ?_)) | exact ih0 _ _ _ | exact ih1 _ _ _ _ _ _ | exact ih2 _ _ _ _ _ _ | exact LeO.none _ | refine LeO.ite ?_ ?_ | refine LeO.bind ?_ (fun _ => ?_)
def fold_cut.T10 : Bool × List (List Nat × List Nat) := (true, [([], []), ([], []), ([1], [1]), ([2], [2]), ([0, 3], [0, 3]), ([4], [4]), ([5], [5]), ([], []), ([7], [7]), ([6, 8], [6, 8]), ([0, 3, 0, 1, 2, 3, 4, 5, 6, 7, 8, 9], [0, 3]), ([10, 0, 1, 2, 3, 4, 5, 6, 7, 8, 9], [10]), ([11, 9, 0, 1, 2, 3, 4, 5, 6, 7, 8, 9], [9, 11])])
def fold_cut.B10 : List Nat := [0, 0, 2, 6, 15, 31, 63, 0, 128, 511, 1023, 2047, 4095]
theorem fold_cut.tab10 : rtab .any (opsOf Tryz.f49 10) = fold_cut.T10 := by kernel_rfl
theorem fold_cut.bits10 : waitsOk fold_cut.T10.2 fold_cut.B10 = true := by kernel_rfl
set_option maxHeartbeats 8000000 in
set_option maxRecDepth 100000 in
theorem fold_cut.calls (k : Nat) (a0 : ByteArray) (r1 : List (S95)) (r2 : Int) (w : World) (hG : GG w) (h : fold_cut.f k a0 = some (r1, r2)) :
  Calls Tryz.prog 49 #[.string a0] w fun e w' => ∃ v0_ : Value, e = .returned (.tuple #[v0_, .int .i64 r2]) ∧ Kd.R k95 95 w' w.heap.size (fun _ => True) v0_ r1 ∧ Below w.heap.size w w' := by
 have hu95 := Tryz.underlying95; have HB := Aside0.mk (Below.refl w.heap.size w); have H : (fold_cut.l0 k a0 ([] : List (S95)) 1) = some (r1, r2) := h; clear h; have H' := Aside0.mk H; clear H
 go_enter Tryz.func49, Tryz.ntmps49
 go_wp2
 go_loopg [0, 4, 5] k (fun kq v0 v4 v5 w' => ∃ (x0_1 : ByteArray) (x4_1 : List (S95)) (x5_1 : Int), v0 = .string x0_1 ∧ v5 = .int .i64 x5_1 ∧ Aside0 (fold_cut.l0 kq x0_1 x4_1 x5_1 = some (r1, r2)) ∧ Aside0 (kq ≤ k) ∧ Aside0 (Kd.R k95 95 w' w.heap.size (fun _ => True) v4 x4_1) ∧ Aside0 (Below w.heap.size w w'))
 case atStart => exact ⟨(a0), (([] : List (S95))), (1), zS, zS, H', ⟨Nat.le_refl _⟩, ⟨by first | exact Kd.R_nil _ _ _ _ _ | exact Kd.N_nil _ _ _ _ _ | exact Kd.V_nil _ _ _ _ _ | exact Kd.Q_nil _ _ _ _ _ | exact Kd.S_nil _ _ _ _ _⟩, ⟨zB⟩⟩
 case round =>
  clear H'; obtain ⟨x0_1, x4_1, x5_1, rfl, rfl, HA, HK1, HO_4, HB⟩ := hrel
  cases gk with
  | zero => exact absurd HA.out (by simp [fold_cut.l0])
  | succ k1 =>
   have H := HA.out; clear HA; simp only [fold_cut.l0] at H; replace H := zIe H; rcases H with ⟨-, c2b0, c2b1, H⟩ | ⟨c2, c2b0, c2b1, H⟩
   ·simp only [Option.some.injEq, Prod.mk.injEq] at H; obtain ⟨rfl, rfl⟩ := H; go_wp2; go_ret2; exact ⟨_, zE, by (with_reducible repeat (first | apply Kd.R_alloc | apply Kd.R_drewN | apply Kd.R_drew)); exact HO_4.out, zB⟩
   ·replace H := Option.bind_eq_some_iff.mp H; obtain ⟨⟨t110, t111, t112⟩, A30, H⟩ := H; replace H : (if t112 = true then (if 0 < (t110.size : Int) then ((fold_goesOn.f (bt t110 0)).bind fun t113 => (fold_cut.j1 k1 x4_1 x5_1 t110 t111 t112 t113)) else (none)) else (fold_cut.j1 k1 x4_1 x5_1 t110 t111 t112 false)) = some (r1, r2) := H; have A3 := Aside0.mk A30; clear A30; have HC4 := Aside0.mk H; clear H
    go_upto_region 6 with (first | ((with_reducible refine gate_callee (f := 75) rfl ?_); refine zq 16 Tryz.func75 #[.string x0_1] (fold_piece.calls x0_1 t110 t111 t112 _ zG A3.out) (fun nd => ?_)))
    (try simp only [Act.put, List.setIfInBounds_toArray, List.set_cons_zero, List.set_cons_succ])
    go_cut [9] (fun v9 wc => ∃ (kq : Nat) (x9_3 : Bool), v9 = .bool x9_3 ∧ Aside0 (fold_cut.j1 kq x4_1 x5_1 t110 t111 t112 x9_3 = some (r1, r2)) ∧ Aside0 (kq ≤ k1) ∧ Aside0 (Kd.R k95 95 wc w.heap.size (fun _ => True) u4 x4_1) ∧ Aside0 (Below w.heap.size w wc))
    case first =>
     have H := HC4.out; clear HC4; replace H := zIb H; rcases H with ⟨rfl, H⟩ | ⟨rfl, H⟩
     ·replace H := zJd H; obtain ⟨c6, c6b0, H⟩ := H; have c6b1 : decide (0 < t110.size) = true := decide_eq_true (by omega); clear c6
      (first | rw [c6b0] | (simp only [i64_w, i32_w]; rw [c6b0]) | skip)
      replace H := zO H; obtain ⟨t113, A8, H⟩ := H; have H' := Aside0.mk H; clear H; have p7 : 0 ≤ (0 : Int) := (by omega); have q7 : 0 < t110.size := (by have : (0 : Int) < (t110.size : Int) := of_decide_eq_true (by first | (with_reducible assumption) | assumption); omega); have hx7 : ∀ h : 0 < t110.size, ((t110[0]'h).toNat : Int) = bt t110 0 := bt_at t110 0; clear p7; have qi7 : (0 < (t110.size : Int)) = True := eq_true (of_decide_eq_true (by first | (with_reducible assumption) | assumption)); replace q7 := eq_true q7
      go_wp2_with (first | (go_at_call 37; (with_reducible refine (fold_goesOn.calls (bt t110 0) t113 _ zG A8.out).mono ?_); rintro e w' ⟨rfl, ⟨nd, rfl⟩⟩))
      go_meet
      case rel => exact ⟨_, (t113), zS, H', ⟨by have := HK1.out; first | omega | exact Nat.le_refl _⟩, ⟨Kd.R_below HO_4.out zX⟩, ⟨zB⟩⟩
     ·have H' := Aside0.mk H; clear H; go_wp2
      go_meet
      case rel => exact ⟨_, (false), zS, H', ⟨by have := HK1.out; first | omega | exact Nat.le_refl _⟩, ⟨Kd.R_below HO_4.out zX⟩, ⟨zB⟩⟩
    case rest =>
     clear HC4; clear c2 c2b0 c2b1; obtain ⟨kq, x9_3, rfl, HA, HJ3, HO_4, HB⟩ := hcut
     cases kq with
     | zero => exact absurd HA.out (by simp [fold_cut.j1])
     | succ kj3 =>
      have H := HA.out; clear HA; simp only [fold_cut.j1] at H; have HC9 := Aside0.mk H; clear H
      go_upto_region 7 with (fail)
      go_cut [35] (fun v35 wc => ∃ (kq : Nat) (x35_8 : Bool), v35 = .bool x35_8 ∧ Aside0 (fold_cut.j2 kq x4_1 x5_1 t110 t111 x9_3 x35_8 = some (r1, r2)) ∧ Aside0 (kq ≤ kj3) ∧ Aside0 (Kd.R k95 95 wc w.heap.size (fun _ => True) u4 x4_1) ∧ Aside0 (Below w.heap.size w wc))
      case first =>
       have H := HC9.out; clear HC9; replace H := zIb H; rcases H with ⟨rfl, H⟩ | ⟨rfl, H⟩
       ·replace H := zIb H; rcases H with ⟨rfl, H⟩ | ⟨rfl, H⟩
        ·have H' := Aside0.mk H; clear H; obtain ⟨Ao12, co12, eo12⟩ := Kd.R_slice HO_4.out; subst eo12; go_wp2
         go_meet
         case rel => exact ⟨_, (((x4_1.length : Int) == 0)), zS, H', ⟨by have := HK1.out; have := HJ3.out; first | omega | exact Nat.le_refl _⟩, ⟨Kd.R_below HO_4.out zX⟩, ⟨zB⟩⟩
        ·have H' := Aside0.mk H; clear H; go_wp2
         go_meet
         case rel => exact ⟨_, (false), zS, H', ⟨by have := HK1.out; have := HJ3.out; first | omega | exact Nat.le_refl _⟩, ⟨Kd.R_below HO_4.out zX⟩, ⟨zB⟩⟩
       ·have H' := Aside0.mk H; clear H; go_wp2
        go_meet
        case rel => exact ⟨_, (true), zS, H', ⟨by have := HK1.out; have := HJ3.out; first | omega | exact Nat.le_refl _⟩, ⟨Kd.R_below HO_4.out zX⟩, ⟨zB⟩⟩
      case rest =>
       clear HC9; obtain ⟨kq, x35_8, rfl, HA, HJ8, HO_4, HB⟩ := hcut
       cases kq with
       | zero => exact absurd HA.out (by simp [fold_cut.j2])
       | succ kj8 =>
        have H := HA.out; clear HA; simp only [fold_cut.j2] at H; replace H := zIb H; rcases H with ⟨rfl, H⟩ | ⟨rfl, H⟩
        ·simp only [Option.some.injEq, Prod.mk.injEq] at H; obtain ⟨rfl, rfl⟩ := H; go_wp2; go_ret2; exact ⟨_, zE, by first | exact Kd.R_nil _ _ _ _ _ | exact Kd.N_nil _ _ _ _ _ | exact Kd.V_nil _ _ _ _ _ | exact Kd.Q_nil _ _ _ _ _ | exact Kd.S_nil _ _ _ _ _, zB⟩
        ·replace H := zIb H; rcases H with ⟨rfl, H⟩ | ⟨rfl, H⟩
         ·obtain ⟨ji15, hji15⟩ : ∃ j_ : Int, (wrap64 ((x4_1.length : Int) - 1)) = j_ := ⟨_, rfl⟩; replace H : (if 0 ≤ (ji15) then (if (ji15) < (x4_1.length : Int) then (if 1 ≤ (t110.size : Int) then (if ((rd_T95 x4_1 (ji15)).f0).size + (t110.extract 1 t110.size).size ≤ 9223372036854775807 then (fold_cut.l0 kj8 t111 (x4_1.set ((ji15) : Int).toNat (⟨((rd_T95 x4_1 (ji15)).f0) ++ (t110.extract 1 t110.size), (rd_T95 x4_1 (ji15)).f1⟩ : S95)) (wrap64 (x5_1 + 1))) else (none)) else (none)) else (none)) else (none)) = some (r1, r2) := by first | (rw [hji15] at H; exact H) | (simp only [hji15] at H ⊢; exact H)
          have hji15w : (IntKind.i64.wrap ((x4_1.length : Int) - 1)) = ji15 := (i64_w _).trans hji15; replace H := zJJ H; obtain ⟨c16b0, c17b0, H⟩ := H; replace H := zJ H; obtain ⟨c18, H⟩ := H; have c18b0 := eq_true c18; have c18b1 : decide (1 ≤ (t110.size : Int)) = true := decide_eq_true c18; clear c18; replace H := zJ H; obtain ⟨c19, H⟩ := H; have c19b0 := eq_true c19; have c19b1 : decide (((rd_T95 x4_1 (ji15)).f0).size + (t110.extract 1 t110.size).size ≤ 9223372036854775807) = true := decide_eq_true c19
          try have c19b2 : (9223372036854775807 < ((rd_T95 x4_1 (ji15)).f0).size + (t110.extract 1 t110.size).size) = False := eq_false (Nat.not_lt.2 c19)
          have c19b3 : (9223372036854775807 < ((rd_T95 x4_1 (ji15)).f0).size + (t110.size - 1)) = False := by
           have h_ : (t110.extract 1 t110.size).size = t110.size - 1 := by rw [ByteArray.size_extract, Nat.min_self]
           rw [← h_]; exact eq_false (Nat.not_lt.2 c19)
          obtain ⟨y115, hy115⟩ : ∃ y_ : List (S95), y_ = (x4_1.set ((ji15) : Int).toNat (⟨((rd_T95 x4_1 (ji15)).f0) ++ (t110.extract 1 t110.size), (rd_T95 x4_1 (ji15)).f1⟩ : S95)) := ⟨_, rfl⟩; replace H : (fold_cut.l0 kj8 t111 y115 (wrap64 (x5_1 + 1))) = some (r1, r2) := by first | (rw [hy115]; with_reducible exact H) | (have H2_ := (Option.bind_some _ _).symm.trans H; rw [hy115]; with_reducible exact H2_) | (have H2_ := (Option.bind_some _ _).symm.trans H; with_reducible exact H2_) | with_reducible exact H | (rw [hy115]; exact H) | exact H
          have Ny115 := Aside0.mk hy115; clear hy115; have H' := Aside0.mk H; clear H
          try go_wp2
          replace HO_4 := Aside0.mk (Kd.R_drew HO_4.out); replace HB := Aside0.mk (below_drew1 HB.out); obtain ⟨Ao22, co22, eo22⟩ := Kd.R_slice HO_4.out
          (first | subst eo22 | (injection eo22 with f1_ f2_ f3_; have f4_ := f1_.symm; have f5_ := f3_.symm; clear f1_ f2_ f3_; subst f4_; subst f5_))
          have p114 := zQ (0 ≤ ((ji15) : Int)); have q114 := zQ ((ji15) < (x4_1.length : Int)); obtain ⟨ad114, e114, hx114_0, hx114_1⟩ := at_T95 (Kd.R_reads' HO_4.out).2.2 (ji15) p114 q114
          cases e114
          replace p114 := eq_true p114; replace q114 := eq_true q114; have p20 := zQ (0 ≤ ((ji15) : Int)); have q20 := zQ (((ji15) : Int) < ((x4_1.length : Int) : Int)); obtain ⟨go20, co20, eo20, gb20, gl20, cl20, HG20⟩ := Kd.R_form HO_4.out (by omega)
          (first | cases eo20 | (injection eo20 with ea_ en_ ec_; (first | subst ea_ | (injection ea_ with ea_; subst ea_)); subst ec_; clear en_))
          have GB20 := Aside0.mk gb20; have GG20 := Aside0.mk HG20; clear gb20 gl20 HG20
          (first | simp only [add_plain] at hx114_0 | skip)
          (first | simp only [add_plain] at hx114_1 | skip)
          obtain ⟨ce20, hcl20, hM20, hcc20, hfr20⟩ := Kd.R_elem HO_4.out z95 ((ji15) : Int) p20 q20; obtain rfl := k95_openM hM20; have hx20_0 : World.cell? _ ⟨go20, ((ji15) : Int).toNat * 2, none⟩ = some (.string ((rd_T95 x4_1 (ji15)).f0)) := hcc20 0 _ rfl; have hx20_1 : World.cell? _ ⟨go20, ((ji15) : Int).toNat * 2 + 1, none⟩ = some (.int .i64 ((rd_T95 x4_1 (ji15)).f1)) := hcc20 1 _ rfl; have hf20_0 : World.frozen? _ ⟨go20, ((ji15) : Int).toNat * 2, none⟩ = false := hfr20 0; have hf20_1 : World.frozen? _ ⟨go20, ((ji15) : Int).toNat * 2 + 1, none⟩ = false := hfr20 1; clear hcl20 hcc20 hfr20 hM20; replace p20 := eq_true p20; replace q20 := eq_true q20
          obtain ⟨ce23, hcl23, hM23, hcc23, hfr23⟩ := Kd.R_elem HO_4.out z95 ((ji15) : Int) (of_decide_eq_true (by first | (with_reducible assumption) | assumption)) (by have h_ : ((ji15) : Int) < ((x4_1.length : Int) : Int) := of_decide_eq_true (by first | (with_reducible assumption) | assumption); first | exact h_ | (have e_ := (Kd.R_reads' HO_4.out).1; omega) | simpa using h_); obtain rfl := k95_openM hM23
          have HP23 := (Kd.R_seg HO_4.out ((ji15) : Int) (of_decide_eq_true (by first | (with_reducible assumption) | assumption)) (by have h_ : ((ji15) : Int) < ((x4_1.length : Int) : Int) := of_decide_eq_true (by first | (with_reducible assumption) | assumption); first | exact h_ | (have e_ := (Kd.R_reads' HO_4.out).1; omega) | simpa using h_) (seg := [.string (((rd_T95 x4_1 (ji15)).f0) ++ (t110.extract 1 t110.size))]) (j := 0) hcl23 hcc23 (show 1 ≤ 2 from by decide) (x' := (⟨((rd_T95 x4_1 (ji15)).f0) ++ (t110.extract 1 t110.size), (rd_T95 x4_1 (ji15)).f1⟩ : S95)) (k95_mkM _ _ _ (⟨((rd_T95 x4_1 (ji15)).f0) ++ (t110.extract 1 t110.size), (rd_T95 x4_1 (ji15)).f1⟩ : S95) ) (fun _ hk => hk)).1; rw [← Ny115.out] at HP23; have HQ23 := Aside0.mk HP23; clear hcl23 hcc23 hfr23 hM23 HP23
          refine start_ (n := 13) (S := fun w' => w'.cell? ⟨go20, ((ji15) : Int).toNat * 2, none⟩ = some (.string ((rd_T95 x4_1 (ji15)).f0)) ∧ w'.cell? ⟨go20, ((ji15) : Int).toNat * 2 + 1, none⟩ = some (.int .i64 ((rd_T95 x4_1 (ji15)).f1))) (ds := [12]) (bs 13 0) (by kernel_rfl) rfl rfl ⟨hx20_0, hx20_1⟩ (fun hHeld => ?_); refine with_tabW fold_cut.tab10 fold_cut.bits10 (fun HT_ HW_ => ?_); generalize wc.drew = w21 at HO_4 HB GG20 HQ23 hf20_0 hf20_1 hx114_0 hx114_1 hx20_0 hx20_1 hHeld ⊢; refine zp 0 38 (bs 13 1) ?_; refine zp 1 39 (bs 13 3) ?_; refine zp 2 40 (bs 13 7) ?_; refine zp 3 41 (bs 13 15) ?_; refine zp 4 42 (bs 13 31) ?_; refine zp 5 43 (bs 13 63) ?_; refine zp 7 45 (bs 13 191) ?_; refine zp 8 46 (bs 13 447) ?_; refine zt 6 44 (bs 13 511) ?_; refine zp 9 47 (bs 13 1023) ?_; refine zp 10 48 (bs 13 2047) ?_; refine zp 11 49 (bs 13 4095) ?_
          refine last_ (i := 12) (N := none) (bs 13 8191) rfl rfl (one_of HT_.out (by kernel_rfl)) (by decide) (fun K hK => ?_); refine skip_ (w1 := ?_) (by rfl) rfl ?_ ?_; rotate_left
          ·go_simp; rfl
          refine hK.out _ _ ?_; clear hK K; refine done_ (done_of HT_.out (by kernel_rfl)) ?_
          try go_wp2
          go_roundg kj8
          case measure => have := HK1.out; have := HJ3.out; have := HJ8.out; omega
          case rel => exact ⟨(t111), (y115), (wrap64 (x5_1 + 1)), zS, zS, H', ⟨by have := HK1.out; have := HJ3.out; have := HJ8.out; omega⟩, ⟨Kd.R_below HQ23.out zX⟩, ⟨by repeat (first | (with_reducible first | exact HB.out | apply below_alloc | apply pw_below_drewN | apply below_drew1 | refine below_set ?_ GB20.out) | exact HB.out)⟩⟩
         ·replace H := zI H; rcases H with ⟨c24, H⟩ | ⟨c24, H⟩
          ·have LMc24 := Aside0.mk c24; clear c24; obtain ⟨y116, hy116⟩ : ∃ y_ : List (S95), y_ = (x4_1 ++ [(⟨t110, x5_1⟩ : S95)]) := ⟨_, rfl⟩; replace H : (fold_cut.l0 kj8 t111 y116 (wrap64 (x5_1 + 1))) = some (r1, r2) := by first | (rw [hy116]; with_reducible exact H) | (have H2_ := (Option.bind_some _ _).symm.trans H; rw [hy116]; with_reducible exact H2_) | (have H2_ := (Option.bind_some _ _).symm.trans H; with_reducible exact H2_) | with_reducible exact H | (rw [hy116]; exact H) | exact H
           have Ny116 := Aside0.mk hy116; clear hy116; have H' := Aside0.mk H; clear H
           go_wp2_with (first | ((with_reducible refine gate_builtin (b := .append) (xs := #[.tmp 50, .tmp 54]) rfl ?_); (try (refine gate_guard (by rfl) ?_; dsimp only)); at_builtin; refine Kd.R_append k95 (w0 := w) w.heap.size rfl (.tmp 50) (.tmp 54) 91 95 (.agg #[(.string ⟨#[]⟩), (.int .i64 0)]) 24 rfl Tryz.underlying91 info95 rfl (by decide) (by omega) u4 x4_1 (⟨t110, x5_1⟩ : S95) [.string t110, .int .i64 x5_1] (fun _ => True) (fun _ => False) rfl rfl ?aP (fun _ hk => hk.elim) ?aF ?aO ?aB ?aS ?aL ?_; (case aP => exact k95_mkM _ _ _ (⟨t110, x5_1⟩ : S95)); (case aB => exact zB); (case aF => exact (fun _ _ => trivial)); (case aO => exact (Kd.R_below HO_4.out zX)); (case aS => exact (below_size zB)); (case aL => have := LMc24.out; omega); intro v117 w25 ho hb hg hat; rw [← Ny116.out] at ho; have n0_ := Aside0.mk (hb); have n1_ := Aside0.mk (ho); clear HB; clear HO_4; have HB := n0_; have HO118 := n1_; clear n0_ n1_; clear ho hb hg hat))
           go_roundg kj8
           case measure => have := HK1.out; have := HJ3.out; have := HJ8.out; omega
           case rel => exact ⟨(t111), (y116), (wrap64 (x5_1 + 1)), zS, zS, H', ⟨by have := HK1.out; have := HJ3.out; have := HJ8.out; omega⟩, ⟨Kd.R_below HO118.out zX⟩, ⟨zB⟩⟩
          ·exact zH H
end Go.Proofs.YtdojmdbaiddkgaaGreatDoor.Print
end
section
namespace Go.Proofs.YtdojmdbaiddkgaaGreatDoor.Print
open Go.RowKit Go.Proofs.YtdojmdbaiddkgaaGreatDoorW.PrintWords Go.Proofs.YtdojmdbaiddkgaaGreatDoorW.PrintLast Go.Proofs.YtdojmdbaiddkgaaGreatDoorW.PrintMore
set_option linter.unusedVariables false
set_option linter.unusedSimpArgs false
def fold_Unfold.l0 : Nat → List ByteArray → List (S95) → Int → Int → Option (List ByteArray × Int × Int)
 | 0, _, _, _, _ => none
 | k + 1, x7, x21, x22, x23 => if x23 < x22 then (if 0 ≤ x23 then (if x23 < (x21.length : Int) then ((utf8_ValidString.f ((rd_T95 x21 x23).f0)).bind fun t125 => (if t125 = true then (if (((rd_T95 x21 x23).f0).size : Int) > 2000 then (some (([] : List ByteArray), (rd_T95 x21 x23).f1, 4)) else (if x7.length < 8796093022208 then (fold_Unfold.l0 k (x7 ++ [(rd_T95 x21 x23).f0]) x21 x22 (wrap64 (x23 + 1))) else (none))) else (some (([] : List ByteArray), (rd_T95 x21 x23).f1, 3)))) else (none)) else (none)) else (some (x7, 0, 0))
def fold_Unfold.f (k : Nat) (a0 : ByteArray) : Option (List ByteArray × Int × Int) := if (a0.size : Int) > 20000 then (some (([] : List ByteArray), 0, 4)) else ((fold_cut.f k a0).bind fun bt119 => (if bt119.2 > 0 then (some (([] : List ByteArray), bt119.2, 5)) else (fold_Unfold.l0 k ([] : List ByteArray) bt119.1 (bt119.1.length : Int) 0)))
theorem fold_Unfold.mono_l : ∀ k, (∀ y0 y1 y2 y3, LeO (fold_Unfold.l0 k y0 y1 y2 y3) (fold_Unfold.l0 (k + 1) y0 y1 y2 y3))
 | 0 => fun _ _ _ _ r h => by simp [fold_Unfold.l0] at h
 | k + 1 => by
  have ih0 := fold_Unfold.mono_l k
  ·intro y0 y1 y2 y3
   unfold fold_Unfold.l0
   repeat' first
   | (with_reducible first | exact ih0 _ _ _ _ | exact fold_cut.mono _ _ | exact LeO.refl _ | exact LeO.none _ | refine LeO.ite ?_ ?_ | refine LeO.bind ?_ (fun _ => ?_)) | exact ih0 _ _ _ _ | exact fold_cut.mono _ _ | exact LeO.none _ | refine LeO.ite ?_ ?_ | refine LeO.bind ?_ (fun _ => ?_)
theorem fold_Unfold.mono : ∀ a0 k, LeO (fold_Unfold.f k a0) (fold_Unfold.f (k + 1) a0) := by
 intro a0 k
 have ih0 := fold_Unfold.mono_l k
 unfold fold_Unfold.f
 repeat' first
   | (with_reducible first | exact ih0 _ _ _ _ | exact fold_cut.mono _ _ | exact LeO.refl _ | exact LeO.none _ | refine LeO.ite ?_ ?_ | refine LeO.bind ?_ (fun _ => ?_)) | exact ih0 _ _ _ _ | exact fold_cut.mono _ _ | exact LeO.none _ | refine LeO.ite ?_ ?_ | refine LeO.bind ?_ (fun _ => ?_)
set_option maxHeartbeats 8000000 in
set_option maxRecDepth 100000 in
theorem fold_Unfold.calls (k : Nat) (a0 : ByteArray) (r1 : List ByteArray) (r2 : Int) (r3 : Int) (w : World) (hG : GG w) (h : fold_Unfold.f k a0 = some (r1, r2, r3)) :
  Calls Tryz.prog 27 #[.string a0] w fun e w' => ∃ v0_ : Value, e = .returned (.tuple #[v0_, .int .i64 r2, .int .i64 r3]) ∧ Kd.R Kd.string 9 w' w.heap.size (fun _ => True) v0_ r1 ∧ Below w.heap.size w w' := by
 have hu95 := Tryz.underlying95; have HB := Aside0.mk (Below.refl w.heap.size w); have H : (if (a0.size : Int) > 20000 then (some (([] : List ByteArray), 0, 4)) else ((fold_cut.f k a0).bind fun bt119 => (if bt119.2 > 0 then (some (([] : List ByteArray), bt119.2, 5)) else (fold_Unfold.l0 k ([] : List ByteArray) bt119.1 (bt119.1.length : Int) 0)))) = some (r1, r2, r3) := h; clear h; replace H := zI H; rcases H with ⟨c2, H⟩ | ⟨c2, H⟩
 ·have c2b0 : decide (20000 < (a0.size : Int)) = true := decide_eq_true c2; have c2b1 : decide (20000 < a0.size) = true := decide_eq_true (by omega); clear c2; simp only [Option.some.injEq, Prod.mk.injEq] at H; obtain ⟨rfl, rfl, rfl⟩ := H
  go_enter Tryz.func27, Tryz.ntmps27
  go_wp2
  repeat (go_quiet (fail); try go_wp2)
  go_ret3
  exact ⟨_, zE, by first | exact Kd.R_nil _ _ _ _ _ | exact Kd.N_nil _ _ _ _ _ | exact Kd.V_nil _ _ _ _ _ | exact Kd.Q_nil _ _ _ _ _ | exact Kd.S_nil _ _ _ _ _, zB⟩
 ·have c2b0 : decide (20000 < (a0.size : Int)) = false := decide_eq_false c2; have c2b1 : decide (20000 < a0.size) = false := decide_eq_false (by omega); clear c2; replace H := Option.bind_eq_some_iff.mp H; obtain ⟨⟨t119, t120⟩, A30, H⟩ := H; replace H : (if t120 > 0 then (some (([] : List ByteArray), t120, 5)) else (fold_Unfold.l0 k ([] : List ByteArray) t119 (t119.length : Int) 0)) = some (r1, r2, r3) := H; have A3 := Aside0.mk A30; clear A30; replace H := zI H; rcases H with ⟨c4, H⟩ | ⟨c4, H⟩
  ·have c4b0 : decide (0 < t120) = true := decide_eq_true c4; clear c4; simp only [Option.some.injEq, Prod.mk.injEq] at H; obtain ⟨rfl, rfl, rfl⟩ := H
   go_enter Tryz.func27, Tryz.ntmps27
   iterate 5 (first | go_quiet (fail) | go_wp2_with (first | (go_at_call 49; (with_reducible refine (fold_cut.calls k a0 t119 t120 _ zG A3.out).mono ?_); rintro e w5 ⟨v121, rfl, ho0, hb⟩; replace HO122 := Aside0.mk (Kd.R_lower ho0 (below_size zB)); replace HB := zw hb; clear hb; clear ho0)))
   go_ret3
   exact ⟨_, zE, by first | exact Kd.R_nil _ _ _ _ _ | exact Kd.N_nil _ _ _ _ _ | exact Kd.V_nil _ _ _ _ _ | exact Kd.Q_nil _ _ _ _ _ | exact Kd.S_nil _ _ _ _ _, zB⟩
  ·have c4b0 : decide (0 < t120) = false := decide_eq_false c4; clear c4; have H' := Aside0.mk H; clear H
   go_enter Tryz.func27, Tryz.ntmps27
   iterate 5 (first | go_quiet (fail) | go_wp2_with (first | (go_at_call 49; (with_reducible refine (fold_cut.calls k a0 t119 t120 _ zG A3.out).mono ?_); rintro e w6 ⟨v121, rfl, ho0, hb⟩; replace HO122 := Aside0.mk (Kd.R_lower ho0 (below_size zB)); replace HB := zw hb; clear hb; clear ho0; obtain ⟨Ao7, co7, eo7⟩ := Kd.R_slice HO122.out; subst eo7)))
   go_loopg [7, 23] k (fun kq v7 v23 w' => ∃ (x7_1 : List ByteArray) (x23_1 : Int), v23 = .int .i64 x23_1 ∧ Aside0 (fold_Unfold.l0 kq x7_1 t119 (t119.length : Int) x23_1 = some (r1, r2, r3)) ∧ Aside0 (kq ≤ k) ∧ Aside0 (Kd.R Kd.string 9 w' w.heap.size (fun _ => True) v7 x7_1) ∧ Aside0 (Kd.R k95 95 w' w.heap.size (fun _ => True) (.slice Ao7 t119.length co7) t119) ∧ Aside0 (Below w.heap.size w w'))
   case atStart => exact ⟨(([] : List ByteArray)), (0), zS, H', ⟨Nat.le_refl _⟩, ⟨by first | exact Kd.R_nil _ _ _ _ _ | exact Kd.N_nil _ _ _ _ _ | exact Kd.V_nil _ _ _ _ _ | exact Kd.Q_nil _ _ _ _ _ | exact Kd.S_nil _ _ _ _ _⟩, ⟨Kd.R_below HO122.out zX⟩, ⟨zB⟩⟩
   case round =>
    clear H'; clear c2b0 c2b1 c4b0; obtain ⟨x7_1, x23_1, rfl, HA, HK1, HO_7, HO_21, HB⟩ := hrel
    cases gk with
    | zero => exact absurd HA.out (by simp [fold_Unfold.l0])
    | succ k1 =>
     have H := HA.out; clear HA; simp only [fold_Unfold.l0] at H; replace H := zId H; rcases H with ⟨-, c8b0, H⟩ | ⟨-, c8b0, H⟩
     ·replace H := zJJ H; obtain ⟨c9b0, c10b0, H⟩ := H; replace H := zO H; obtain ⟨t125, A11, H⟩ := H; replace H := zIb H; rcases H with ⟨rfl, H⟩ | ⟨rfl, H⟩
      ·replace H := zI H; rcases H with ⟨c13, H⟩ | ⟨c13, H⟩
       ·have c13b0 : decide (2000 < (((rd_T95 t119 x23_1).f0).size : Int)) = true := decide_eq_true c13; have c13b1 : decide (2000 < ((rd_T95 t119 x23_1).f0).size) = true := decide_eq_true (by omega); clear c13; simp only [Option.some.injEq, Prod.mk.injEq] at H; obtain ⟨rfl, rfl, rfl⟩ := H; have p123 := zQ (0 ≤ (x23_1 : Int)); have q123 := zQ (x23_1 < (t119.length : Int)); obtain ⟨ad123, e123, hx123_0, hx123_1⟩ := at_T95 (Kd.R_reads' HO_21.out).2.2 x23_1 p123 q123
        cases e123
        replace p123 := eq_true p123; replace q123 := eq_true q123
        iterate 5 (first | go_quiet (fail) | go_wp2_with (first | ((with_reducible refine gate_dst (N := 9) rfl ?_); refine zbox (N := 9) #[.string (⟨#[]⟩ : ByteArray), .int .i64 0] 95 (fun gb124 hg w14 hbox hb => ?_); replace HO_7 := Aside0.mk (Kd.R_below (Kd.R_below HO_7.out zX) hb); replace HO_21 := Aside0.mk (Kd.R_below (Kd.R_elderB (Kd.R_below HO_21.out zX) gb124 (Nat.le_of_eq hg.symm)) hb); replace BK124 := Aside0.mk hbox; replace GE124 := zg w hg; replace HB := zw hb; clear hb hbox hg; obtain ⟨hcz15_0, hcz15_1, hfz15_0, hfz15_1⟩ := zk2 BK124) | (go_at_call 50; (with_reducible refine (utf8_ValidString.calls ((rd_T95 t119 x23_1).f0) true _ zG A11.out).mono ?_); rintro e w16 ⟨rfl, hb⟩; replace HO_7 := Aside0.mk (Kd.R_below (by (with_reducible repeat (first | apply Kd.R_alloc | apply Kd.R_drewN | apply Kd.R_drew)); exact (Kd.R_mono (Kd.R_far (p := ⟨gb124, 1, none⟩) (Kd.R_far (p := ⟨gb124, 0, none⟩) (Kd.R_types HO_7.out BK124.out (by decide)) (fun _ hk => hk.2) (.string ((rd_T95 t119 x23_1).f0))) (fun _ hk => hk.2) (.int .i64 ((rd_T95 t119 x23_1).f1))) (fun _ h_ => h_.1))) hb); replace HO_21 := Aside0.mk (Kd.R_below (by (with_reducible repeat (first | apply Kd.R_alloc | apply Kd.R_drewN | apply Kd.R_drew)); exact (Kd.R_mono (Kd.R_far (p := ⟨gb124, 1, none⟩) (Kd.R_far (p := ⟨gb124, 0, none⟩) (Kd.R_mono HO_21.out (fun k_ hk => (⟨hk, hk.2⟩ : _ ∧ k_ ≠ gb124))) (fun _ hk => hk.2) (.string ((rd_T95 t119 x23_1).f0))) (fun _ hk => hk.2) (.int .i64 ((rd_T95 t119 x23_1).f1))) (fun _ h_ => h_.1))) hb); replace BK124 := Aside0.mk (blk_below (g := gb124) (o := .cells #[.string ((rd_T95 t119 x23_1).f0), .int .i64 ((rd_T95 t119 x23_1).f1)] 95 (0, 0)) (by (with_reducible repeat (first | refine blk_drewN ?_ _ | refine blk_drew ?_ | refine blk_alloc ?_ _)); refine blk_put (cs := #[.string ((rd_T95 t119 x23_1).f0), .int .i64 0]) ?_ 1 _ rfl; (with_reducible repeat (first | refine blk_drewN ?_ _ | refine blk_drew ?_ | refine blk_alloc ?_ _)); refine blk_put (cs := #[.string (⟨#[]⟩ : ByteArray), .int .i64 0]) ?_ 0 _ rfl; (with_reducible repeat (first | refine blk_drewN ?_ _ | refine blk_drew ?_ | refine blk_alloc ?_ _)); exact BK124.out) hb); replace HB := zw hb; clear hb; have hcz17_0 : w16.cell? ⟨gb124, 0, none⟩ = some (.string ((rd_T95 t119 x23_1).f0)) := (blk_cell BK124.out 0).trans rfl; have hcz17_1 : w16.cell? ⟨gb124, 1, none⟩ = some (.int .i64 ((rd_T95 t119 x23_1).f1)) := (blk_cell BK124.out 1).trans rfl; have hfz17_0 := zf BK124 0; have hfz17_1 := zf BK124 1)))
        go_ret3
        exact ⟨_, zE, by first | exact Kd.R_nil _ _ _ _ _ | exact Kd.N_nil _ _ _ _ _ | exact Kd.V_nil _ _ _ _ _ | exact Kd.Q_nil _ _ _ _ _ | exact Kd.S_nil _ _ _ _ _, zB⟩
       ·have c13b0 : decide (2000 < (((rd_T95 t119 x23_1).f0).size : Int)) = false := decide_eq_false c13; have c13b1 : decide (2000 < ((rd_T95 t119 x23_1).f0).size) = false := decide_eq_false (by omega); clear c13; replace H := zJ H; obtain ⟨c18, H⟩ := H; have LMc18 := Aside0.mk c18; clear c18; obtain ⟨y126, hy126⟩ : ∃ y_ : List ByteArray, y_ = (x7_1 ++ [(rd_T95 t119 x23_1).f0]) := ⟨_, rfl⟩; replace H : (fold_Unfold.l0 k1 y126 t119 (t119.length : Int) (wrap64 (x23_1 + 1))) = some (r1, r2, r3) := by first | (rw [hy126]; with_reducible exact H) | (have H2_ := (Option.bind_some _ _).symm.trans H; rw [hy126]; with_reducible exact H2_) | (have H2_ := (Option.bind_some _ _).symm.trans H; with_reducible exact H2_) | with_reducible exact H | (rw [hy126]; exact H) | exact H
        have Ny126 := Aside0.mk hy126; clear hy126; have H' := Aside0.mk H; clear H; have p123 := zQ (0 ≤ (x23_1 : Int)); have q123 := zQ (x23_1 < (t119.length : Int)); obtain ⟨ad123, e123, hx123_0, hx123_1⟩ := at_T95 (Kd.R_reads' HO_21.out).2.2 x23_1 p123 q123
        cases e123
        replace p123 := eq_true p123; replace q123 := eq_true q123
        iterate 5 (first | go_quiet (fail) | go_wp2_with (first | ((with_reducible refine gate_dst (N := 9) rfl ?_); refine zbox (N := 9) #[.string (⟨#[]⟩ : ByteArray), .int .i64 0] 95 (fun gb124 hg w19 hbox hb => ?_); replace HO_7 := Aside0.mk (Kd.R_below (Kd.R_below HO_7.out zX) hb); replace HO_21 := Aside0.mk (Kd.R_below (Kd.R_elderB (Kd.R_below HO_21.out zX) gb124 (Nat.le_of_eq hg.symm)) hb); replace BK124 := Aside0.mk hbox; replace GE124 := zg w hg; replace HB := zw hb; clear hb hbox hg; obtain ⟨hcz20_0, hcz20_1, hfz20_0, hfz20_1⟩ := zk2 BK124) | (go_at_call 50; (with_reducible refine (utf8_ValidString.calls ((rd_T95 t119 x23_1).f0) true _ zG A11.out).mono ?_); rintro e w21 ⟨rfl, hb⟩; replace HO_7 := Aside0.mk (Kd.R_below (by (with_reducible repeat (first | apply Kd.R_alloc | apply Kd.R_drewN | apply Kd.R_drew)); exact (Kd.R_mono (Kd.R_far (p := ⟨gb124, 1, none⟩) (Kd.R_far (p := ⟨gb124, 0, none⟩) (Kd.R_types HO_7.out BK124.out (by decide)) (fun _ hk => hk.2) (.string ((rd_T95 t119 x23_1).f0))) (fun _ hk => hk.2) (.int .i64 ((rd_T95 t119 x23_1).f1))) (fun _ h_ => h_.1))) hb); replace HO_21 := Aside0.mk (Kd.R_below (by (with_reducible repeat (first | apply Kd.R_alloc | apply Kd.R_drewN | apply Kd.R_drew)); exact (Kd.R_mono (Kd.R_far (p := ⟨gb124, 1, none⟩) (Kd.R_far (p := ⟨gb124, 0, none⟩) (Kd.R_mono HO_21.out (fun k_ hk => (⟨hk, hk.2⟩ : _ ∧ k_ ≠ gb124))) (fun _ hk => hk.2) (.string ((rd_T95 t119 x23_1).f0))) (fun _ hk => hk.2) (.int .i64 ((rd_T95 t119 x23_1).f1))) (fun _ h_ => h_.1))) hb); replace BK124 := Aside0.mk (blk_below (g := gb124) (o := .cells #[.string ((rd_T95 t119 x23_1).f0), .int .i64 ((rd_T95 t119 x23_1).f1)] 95 (0, 0)) (by (with_reducible repeat (first | refine blk_drewN ?_ _ | refine blk_drew ?_ | refine blk_alloc ?_ _)); refine blk_put (cs := #[.string ((rd_T95 t119 x23_1).f0), .int .i64 0]) ?_ 1 _ rfl; (with_reducible repeat (first | refine blk_drewN ?_ _ | refine blk_drew ?_ | refine blk_alloc ?_ _)); refine blk_put (cs := #[.string (⟨#[]⟩ : ByteArray), .int .i64 0]) ?_ 0 _ rfl; (with_reducible repeat (first | refine blk_drewN ?_ _ | refine blk_drew ?_ | refine blk_alloc ?_ _)); exact BK124.out) hb); replace HB := zw hb; clear hb; have hcz22_0 : w21.cell? ⟨gb124, 0, none⟩ = some (.string ((rd_T95 t119 x23_1).f0)) := (blk_cell BK124.out 0).trans rfl; have hcz22_1 : w21.cell? ⟨gb124, 1, none⟩ = some (.int .i64 ((rd_T95 t119 x23_1).f1)) := (blk_cell BK124.out 1).trans rfl; have hfz22_0 := zf BK124 0; have hfz22_1 := zf BK124 1) | ((with_reducible refine gate_builtin (b := .append) (xs := #[.tmp 41, .tmp 44]) rfl ?_); at_builtin; refine Kd.R_append Kd.string (w0 := w) w.heap.size rfl (.tmp 41) (.tmp 44) 54 9 (.string ⟨#[]⟩) 16 rfl Tryz.underlying54 info9 rfl (by decide) (by omega) u7 x7_1 ((rd_T95 t119 x23_1).f0) [.string ((rd_T95 t119 x23_1).f0)] (fun _ => True) (fun _ => False) rfl rfl ?aP (fun _ hk => hk.elim) ?aF ?aO ?aB ?aS ?aL ?_; (case aP => exact rfl); (case aB => exact zB); (case aF => exact (fun _ _ => trivial)); (case aO => exact (Kd.R_below HO_7.out zX)); (case aS => exact (below_size zB)); (case aL => have := LMc18.out; omega); intro v127 w23 ho hb hg hat; rw [← Ny126.out] at ho; have n0_ := Aside0.mk (Kd.R_over' (Kd.R_below HO_21.out zX) (Kd.R_typed (Kd.R_below HO_7.out zX)) (by decide) hg); have n1_ := Aside0.mk (blk_grown (g := gb124) (o := .cells #[.string ((rd_T95 t119 x23_1).f0), .int .i64 ((rd_T95 t119 x23_1).f1)] 95 (0, 0)) (blk_below BK124.out zX) hg (Kd.R_ne HO_7.out BK124.out (by decide))); have n2_ := Aside0.mk (hb); have n3_ := Aside0.mk (ho); clear HO_21; clear BK124; clear HB; clear HO_7; have HO_21 := n0_; have BK124 := n1_; have HB := n2_; have HO128 := n3_; clear n0_ n1_ n2_ n3_; clear ho hb hg hat)))
        go_roundg k1
        case measure => have := HK1.out; omega
        case rel => exact ⟨(y126), (wrap64 (x23_1 + 1)), zS, H', ⟨by have := HK1.out; omega⟩, ⟨Kd.R_below HO128.out zX⟩, ⟨by (with_reducible repeat (first | apply Kd.R_alloc | apply Kd.R_drewN | apply Kd.R_drew)); exact Kd.R_mono HO_21.out (fun _ hk => trivial)⟩, ⟨zB⟩⟩
      ·simp only [Option.some.injEq, Prod.mk.injEq] at H; obtain ⟨rfl, rfl, rfl⟩ := H; have p123 := zQ (0 ≤ (x23_1 : Int)); have q123 := zQ (x23_1 < (t119.length : Int)); obtain ⟨ad123, e123, hx123_0, hx123_1⟩ := at_T95 (Kd.R_reads' HO_21.out).2.2 x23_1 p123 q123
       cases e123
       replace p123 := eq_true p123; replace q123 := eq_true q123
       iterate 5 (first | go_quiet (fail) | go_wp2_with (first | ((with_reducible refine gate_dst (N := 9) rfl ?_); refine zbox (N := 9) #[.string (⟨#[]⟩ : ByteArray), .int .i64 0] 95 (fun gb124 hg w24 hbox hb => ?_); replace HO_7 := Aside0.mk (Kd.R_below (Kd.R_below HO_7.out zX) hb); replace HO_21 := Aside0.mk (Kd.R_below (Kd.R_elderB (Kd.R_below HO_21.out zX) gb124 (Nat.le_of_eq hg.symm)) hb); replace BK124 := Aside0.mk hbox; replace GE124 := zg w hg; replace HB := zw hb; clear hb hbox hg; obtain ⟨hcz25_0, hcz25_1, hfz25_0, hfz25_1⟩ := zk2 BK124) | (go_at_call 50; (with_reducible refine (utf8_ValidString.calls ((rd_T95 t119 x23_1).f0) false _ zG A11.out).mono ?_); rintro e w26 ⟨rfl, hb⟩; replace HO_7 := Aside0.mk (Kd.R_below (by (with_reducible repeat (first | apply Kd.R_alloc | apply Kd.R_drewN | apply Kd.R_drew)); exact (Kd.R_mono (Kd.R_far (p := ⟨gb124, 1, none⟩) (Kd.R_far (p := ⟨gb124, 0, none⟩) (Kd.R_types HO_7.out BK124.out (by decide)) (fun _ hk => hk.2) (.string ((rd_T95 t119 x23_1).f0))) (fun _ hk => hk.2) (.int .i64 ((rd_T95 t119 x23_1).f1))) (fun _ h_ => h_.1))) hb); replace HO_21 := Aside0.mk (Kd.R_below (by (with_reducible repeat (first | apply Kd.R_alloc | apply Kd.R_drewN | apply Kd.R_drew)); exact (Kd.R_mono (Kd.R_far (p := ⟨gb124, 1, none⟩) (Kd.R_far (p := ⟨gb124, 0, none⟩) (Kd.R_mono HO_21.out (fun k_ hk => (⟨hk, hk.2⟩ : _ ∧ k_ ≠ gb124))) (fun _ hk => hk.2) (.string ((rd_T95 t119 x23_1).f0))) (fun _ hk => hk.2) (.int .i64 ((rd_T95 t119 x23_1).f1))) (fun _ h_ => h_.1))) hb); replace BK124 := Aside0.mk (blk_below (g := gb124) (o := .cells #[.string ((rd_T95 t119 x23_1).f0), .int .i64 ((rd_T95 t119 x23_1).f1)] 95 (0, 0)) (by (with_reducible repeat (first | refine blk_drewN ?_ _ | refine blk_drew ?_ | refine blk_alloc ?_ _)); refine blk_put (cs := #[.string ((rd_T95 t119 x23_1).f0), .int .i64 0]) ?_ 1 _ rfl; (with_reducible repeat (first | refine blk_drewN ?_ _ | refine blk_drew ?_ | refine blk_alloc ?_ _)); refine blk_put (cs := #[.string (⟨#[]⟩ : ByteArray), .int .i64 0]) ?_ 0 _ rfl; (with_reducible repeat (first | refine blk_drewN ?_ _ | refine blk_drew ?_ | refine blk_alloc ?_ _)); exact BK124.out) hb); replace HB := zw hb; clear hb; have hcz27_0 : w26.cell? ⟨gb124, 0, none⟩ = some (.string ((rd_T95 t119 x23_1).f0)) := (blk_cell BK124.out 0).trans rfl; have hcz27_1 : w26.cell? ⟨gb124, 1, none⟩ = some (.int .i64 ((rd_T95 t119 x23_1).f1)) := (blk_cell BK124.out 1).trans rfl; have hfz27_0 := zf BK124 0; have hfz27_1 := zf BK124 1)))
       go_ret3
       exact ⟨_, zE, by first | exact Kd.R_nil _ _ _ _ _ | exact Kd.N_nil _ _ _ _ _ | exact Kd.V_nil _ _ _ _ _ | exact Kd.Q_nil _ _ _ _ _ | exact Kd.S_nil _ _ _ _ _, zB⟩
     ·simp only [Option.some.injEq, Prod.mk.injEq] at H; obtain ⟨rfl, rfl, rfl⟩ := H; go_wp2
      repeat (go_quiet (fail); try go_wp2)
      go_ret3
      exact ⟨_, zE, by (with_reducible repeat (first | apply Kd.R_alloc | apply Kd.R_drewN | apply Kd.R_drew)); exact HO_7.out, zB⟩
/-- A state of type 98 at block g of W; what its slices lead to came in by w0. -/
def IsS98 (w0 W : World) (g : Nat) (f0 : ByteArray) (f1 : Int) (f2 : Int) : Prop := W.heap[g]? = some (.cells #[.string f0, .int .i64 f1, .int .i64 f2] 98 (0, 0)) ∧ w0.heap.size ≤ g
theorem IsS98.grown {w0 W : World} {g : Nat} {f0 : ByteArray} {f1 : Int} {f2 : Int} {W1 : World} {row : Option Nat} (h : IsS98 w0 W g f0 f1 f2) (hw : W.grownBy W1 row) (hne : some g ≠ row) : IsS98 w0 W1 g f0 f1 f2 := by
 obtain ⟨hb, hg⟩ := h
 exact ⟨blk_grown hb hw hne, hg⟩
theorem IsS98.below {w0 W : World} {g : Nat} {f0 : ByteArray} {f1 : Int} {f2 : Int} {W1 : World} (h : IsS98 w0 W g f0 f1 f2) (hw : Below W.heap.size W W1) : IsS98 w0 W1 g f0 f1 f2 := h.grown (grown_of_below hw none) (by simp)
theorem IsS98.alloc {w0 W : World} {g : Nat} {f0 : ByteArray} {f1 : Int} {f2 : Int} (h : IsS98 w0 W g f0 f1 f2) (o : Obj) : IsS98 w0 (W.alloc o) g f0 f1 f2 := h.below (below_alloc (Below.refl _ _) o)
theorem IsS98.drewN {w0 W : World} {g : Nat} {f0 : ByteArray} {f1 : Int} {f2 : Int} (h : IsS98 w0 W g f0 f1 f2) (m : Nat) : IsS98 w0 (W.drewN m) g f0 f1 f2 := h
theorem IsS98.drew {w0 W : World} {g : Nat} {f0 : ByteArray} {f1 : Int} {f2 : Int} (h : IsS98 w0 W g f0 f1 f2) : IsS98 w0 W.drew g f0 f1 f2 := h
theorem IsS98.apart {w0 W : World} {g : Nat} {f0 : ByteArray} {f1 : Int} {f2 : Int} {α : Type} {d : Kd α} {e : Nat} {base : Nat} {ok : Nat → Prop} {v : Value} {xs : List α} (h : IsS98 w0 W g f0 f1 f2) (ho : d.R e W base ok v xs) (ht : ∀ q, q ∈ e :: d.E → q ≠ 98) : d.R e W base (fun k => ok k ∧ k ≠ g) v xs := by
 obtain ⟨hb, hg⟩ := h
 exact Kd.R_types ho hb ht
theorem IsS98.own_ne {w0 W : World} {g : Nat} {f0 : ByteArray} {f1 : Int} {f2 : Int} {α : Type} {d : Kd α} {e : Nat} {base : Nat} {ok : Nat → Prop} {v : Value} {xs : List α} (h : IsS98 w0 W g f0 f1 f2) (ho : d.R e W base ok v xs) (ht : e ≠ 98) : some g ≠ v.ownBlock := by
 obtain ⟨hb, hg⟩ := h
 exact Kd.R_ne ho hb ht
theorem IsS98.lt {w0 W : World} {g : Nat} {f0 : ByteArray} {f1 : Int} {f2 : Int} (h : IsS98 w0 W g f0 f1 f2) : g < W.heap.size := by
 obtain ⟨hb, hg⟩ := h
 exact blk_lt hb
theorem IsS98.ge {w0 W : World} {g : Nat} {f0 : ByteArray} {f1 : Int} {f2 : Int} (h : IsS98 w0 W g f0 f1 f2) : w0.heap.size ≤ g := by
 obtain ⟨hb, hg⟩ := h
 exact hg
theorem IsS98.far {w0 W : World} {g : Nat} {f0 : ByteArray} {f1 : Int} {f2 : Int} {p : Addr} (h : IsS98 w0 W g f0 f1 f2) (hne : g ≠ p.block) (u : Value) : IsS98 w0 (W.setCell p u) g f0 f1 f2 := by
 obtain ⟨hb, hg⟩ := h
 exact ⟨blk_far hb hne u, hg⟩
theorem cellS98_0 {W : World} {g : Nat} {f0 : ByteArray} {f1 : Int} {f2 : Int} (h : W.heap[g]? = some (.cells #[.string f0, .int .i64 f1, .int .i64 f2] 98 (0, 0))) : W.cell? ⟨g, 0, none⟩ = some (.string f0) := (blk_cell h 0).trans rfl
theorem IsS98.set_0 {w0 W : World} {g : Nat} {f0 : ByteArray} {f1 : Int} {f2 : Int} (h : IsS98 w0 W g f0 f1 f2) (x : ByteArray) : IsS98 w0 (W.setCell ⟨g, 0, none⟩ (.string x)) g x f1 f2 := by
 obtain ⟨hb, hg⟩ := h
 exact ⟨by simpa using blk_set hb 0 (.string x), hg⟩
theorem cellS98_1 {W : World} {g : Nat} {f0 : ByteArray} {f1 : Int} {f2 : Int} (h : W.heap[g]? = some (.cells #[.string f0, .int .i64 f1, .int .i64 f2] 98 (0, 0))) : W.cell? ⟨g, 1, none⟩ = some (.int .i64 f1) := (blk_cell h 1).trans rfl
theorem IsS98.set_1 {w0 W : World} {g : Nat} {f0 : ByteArray} {f1 : Int} {f2 : Int} (h : IsS98 w0 W g f0 f1 f2) (x : Int) : IsS98 w0 (W.setCell ⟨g, 1, none⟩ (.int .i64 x)) g f0 x f2 := by
 obtain ⟨hb, hg⟩ := h
 exact ⟨by simpa using blk_set hb 1 (.int .i64 x), hg⟩
theorem cellS98_2 {W : World} {g : Nat} {f0 : ByteArray} {f1 : Int} {f2 : Int} (h : W.heap[g]? = some (.cells #[.string f0, .int .i64 f1, .int .i64 f2] 98 (0, 0))) : W.cell? ⟨g, 2, none⟩ = some (.int .i64 f2) := (blk_cell h 2).trans rfl
theorem IsS98.set_2 {w0 W : World} {g : Nat} {f0 : ByteArray} {f1 : Int} {f2 : Int} (h : IsS98 w0 W g f0 f1 f2) (x : Int) : IsS98 w0 (W.setCell ⟨g, 2, none⟩ (.int .i64 x)) g f0 f1 x := by
 obtain ⟨hb, hg⟩ := h
 exact ⟨by simpa using blk_set hb 2 (.int .i64 x), hg⟩
theorem IsS98.new (w0 W : World) (f0 : ByteArray) (f1 : Int) (f2 : Int) (hB : Below w0.heap.size w0 W) : IsS98 w0 (W.alloc (.cells #[.string f0, .int .i64 f1, .int .i64 f2] 98)) W.heap.size f0 f1 f2 := ⟨by simpa using heap_alloc_new W _, hB.size⟩
def line_reader_wrong.f (s0_0 : ByteArray) (s0_1 : Int) (s0_2 : Int) (a1 : Int) (a2 : Int) : Option (ByteArray × Int × Int) := if s0_2 = 0 then (some (s0_0, a2, a1)) else (some (s0_0, s0_1, s0_2))
set_option maxHeartbeats 8000000 in
set_option maxRecDepth 100000 in
theorem line_reader_wrong.calls (g : Nat) (s0_0 : ByteArray) (s0_1 : Int) (s0_2 : Int) (a1 : Int) (a2 : Int) (r1 : ByteArray) (r2 : Int) (r3 : Int) (w0 w : World) (hG : GG w0) (hI : IsS98 w0 w g s0_0 s0_1 s0_2) (hB : Below w0.heap.size w0 w) (h : line_reader_wrong.f s0_0 s0_1 s0_2 a1 a2 = some (r1, r2, r3)) :
  Calls Tryz.prog 54 #[.pointer (some ⟨g, 0, none⟩), .int .i64 a1, .int .i64 a2] w fun e w' => e = .returned (.tuple #[]) ∧ IsS98 w0 w' g r1 r2 r3 ∧ Below w0.heap.size w0 w' ∧ KeepBut w w' g none := by
 have HI0 := Aside0.mk hI; have HK := Aside0.mk (KeepBut.refl w g none); have HL := Aside0.mk hB.size; clear hI; have HW0 := Aside0.mk hB.size; have HB := Aside0.mk hB; clear hB; have H : (if s0_2 = 0 then (some (s0_0, a2, a1)) else (some (s0_0, s0_1, s0_2))) = some (r1, r2, r3) := h; clear h; replace H := zIe H; rcases H with ⟨-, c4b0, c4b1, H⟩ | ⟨c4, c4b0, c4b1, H⟩
 ·simp only [Option.some.injEq, Prod.mk.injEq] at H; obtain ⟨rfl, rfl, rfl⟩ := H; obtain ⟨HGz5, hgz5⟩ := HI0.out; have hcz5_0 := cellS98_0 HGz5; have hcz5_1 := cellS98_1 HGz5; have hcz5_2 := cellS98_2 HGz5; have hfz5_0 := blk_frozen HGz5 0; have hfz5_1 := blk_frozen HGz5 1; have hfz5_2 := blk_frozen HGz5 2; clear HGz5 hgz5
  go_enter Tryz.func54, Tryz.ntmps54
  go_wp2
  first | go_end0 | ((try simp only [Exit.inBlock, Exit.then]); refine bodyPost_ret (results_none rfl _ _ _) rfl ?_)
  exact ⟨zE, by repeat (first | (with_reducible first | exact HI0.out | apply IsS98.alloc | apply IsS98.drewN | apply IsS98.drew | apply IsS98.set_0 | apply IsS98.set_1 | apply IsS98.set_2) | exact HI0.out), by repeat (first | (with_reducible first | exact HB.out | apply below_alloc | apply pw_below_drewN | apply below_drew1 | refine below_set ?_ (IsS98.ge HI0.out)) | exact HB.out), by repeat (first | (with_reducible first | exact HK.out | apply KeepBut.set_ | apply keep_drewN | apply keep_drew | apply keep_alloc) | exact HK.out)⟩
 ·simp only [Option.some.injEq, Prod.mk.injEq] at H; obtain ⟨rfl, rfl, rfl⟩ := H; obtain ⟨HGz6, hgz6⟩ := HI0.out; have hcz6_0 := cellS98_0 HGz6; have hcz6_1 := cellS98_1 HGz6; have hcz6_2 := cellS98_2 HGz6; have hfz6_0 := blk_frozen HGz6 0; have hfz6_1 := blk_frozen HGz6 1; have hfz6_2 := blk_frozen HGz6 2; clear HGz6 hgz6
  go_enter Tryz.func54, Tryz.ntmps54
  go_wp2
  first | go_end0 | ((try simp only [Exit.inBlock, Exit.then]); refine bodyPost_ret (results_none rfl _ _ _) rfl ?_)
  exact ⟨zE, by repeat (first | (with_reducible first | exact HI0.out | apply IsS98.alloc | apply IsS98.drewN | apply IsS98.drew | apply IsS98.set_0 | apply IsS98.set_1 | apply IsS98.set_2) | exact HI0.out), by repeat (first | (with_reducible first | exact HB.out | apply below_alloc | apply pw_below_drewN | apply below_drew1 | refine below_set ?_ (IsS98.ge HI0.out)) | exact HB.out), by repeat (first | (with_reducible first | exact HK.out | apply KeepBut.set_ | apply keep_drewN | apply keep_drew | apply keep_alloc) | exact HK.out)⟩
def line_sign.f (a0 : Int) (a1 : Bool) : Option (Bool) := if a0 ≥ 65 then (if a0 ≤ 90 then (some true) else (if a0 ≥ 48 then (if a0 ≤ 57 then (some true) else (if a0 = 45 then (some true) else (if a1 = true then (some false) else (if a0 ≥ 97 then (some (decide (a0 ≤ 122))) else (some false))))) else (if a0 = 45 then (some true) else (if a1 = true then (some false) else (if a0 ≥ 97 then (some (decide (a0 ≤ 122))) else (some false)))))) else (if a0 ≥ 48 then (if a0 ≤ 57 then (some true) else (if a0 = 45 then (some true) else (if a1 = true then (some false) else (if a0 ≥ 97 then (some (decide (a0 ≤ 122))) else (some false))))) else (if a0 = 45 then (some true) else (if a1 = true then (some false) else (if a0 ≥ 97 then (some (decide (a0 ≤ 122))) else (some false)))))
set_option maxHeartbeats 8000000 in
set_option maxRecDepth 100000 in
theorem line_sign.calls (a0 : Int) (a1 : Bool) (r : Bool) (w : World) (hG : GG w) (h : line_sign.f a0 a1 = some r) :
  Calls Tryz.prog 70 #[.int .u8 a0, .bool a1] w fun e w' => e = .returned (.bool r) ∧ Drawn0 w w' := by
 have H : (if a0 ≥ 65 then (if a0 ≤ 90 then (some true) else (if a0 ≥ 48 then (if a0 ≤ 57 then (some true) else (if a0 = 45 then (some true) else (if a1 = true then (some false) else (if a0 ≥ 97 then (some (decide (a0 ≤ 122))) else (some false))))) else (if a0 = 45 then (some true) else (if a1 = true then (some false) else (if a0 ≥ 97 then (some (decide (a0 ≤ 122))) else (some false)))))) else (if a0 ≥ 48 then (if a0 ≤ 57 then (some true) else (if a0 = 45 then (some true) else (if a1 = true then (some false) else (if a0 ≥ 97 then (some (decide (a0 ≤ 122))) else (some false))))) else (if a0 = 45 then (some true) else (if a1 = true then (some false) else (if a0 ≥ 97 then (some (decide (a0 ≤ 122))) else (some false)))))) = some r := h; clear h; replace H := zI H; rcases H with ⟨c3, H⟩ | ⟨c3, H⟩
 ·have c3b0 : decide (65 ≤ a0) = true := decide_eq_true c3; clear c3; replace H := zId H; rcases H with ⟨-, c4b0, H⟩ | ⟨-, c4b0, H⟩
  ·obtain rfl := Option.some.inj H
   go_enter Tryz.func70, Tryz.ntmps70
   go_wp2; go_ret
   exact ⟨zS, zD⟩
  ·replace H := zI H; rcases H with ⟨c5, H⟩ | ⟨c5, H⟩
   ·have c5b0 : decide (48 ≤ a0) = true := decide_eq_true c5; clear c5; replace H := zId H; rcases H with ⟨-, c6b0, H⟩ | ⟨-, c6b0, H⟩
    ·obtain rfl := Option.some.inj H
     go_enter Tryz.func70, Tryz.ntmps70
     go_wp2; go_ret
     exact ⟨zS, zD⟩
    ·replace H := zIe H; rcases H with ⟨-, c7b0, c7b1, H⟩ | ⟨c7, c7b0, c7b1, H⟩
     ·obtain rfl := Option.some.inj H
      go_enter Tryz.func70, Tryz.ntmps70
      go_wp2; go_ret
      exact ⟨zS, zD⟩
     ·replace H := zIb H; rcases H with ⟨rfl, H⟩ | ⟨rfl, H⟩
      ·obtain rfl := Option.some.inj H
       go_enter Tryz.func70, Tryz.ntmps70
       go_wp2; go_ret
       exact ⟨zS, zD⟩
      ·replace H := zI H; rcases H with ⟨c9, H⟩ | ⟨c9, H⟩
       ·have c9b0 : decide (97 ≤ a0) = true := decide_eq_true c9; clear c9; obtain rfl := Option.some.inj H
        go_enter Tryz.func70, Tryz.ntmps70
        go_wp2; go_ret
        exact ⟨zS, zD⟩
       ·have c9b0 : decide (97 ≤ a0) = false := decide_eq_false c9; clear c9; obtain rfl := Option.some.inj H
        go_enter Tryz.func70, Tryz.ntmps70
        go_wp2; go_ret
        exact ⟨zS, zD⟩
   ·have c5b0 : decide (48 ≤ a0) = false := decide_eq_false c5; clear c5; replace H := zIe H; rcases H with ⟨-, c10b0, c10b1, H⟩ | ⟨c10, c10b0, c10b1, H⟩
    ·obtain rfl := Option.some.inj H
     go_enter Tryz.func70, Tryz.ntmps70
     go_wp2; go_ret
     exact ⟨zS, zD⟩
    ·replace H := zIb H; rcases H with ⟨rfl, H⟩ | ⟨rfl, H⟩
     ·obtain rfl := Option.some.inj H
      go_enter Tryz.func70, Tryz.ntmps70
      go_wp2; go_ret
      exact ⟨zS, zD⟩
     ·replace H := zI H; rcases H with ⟨c12, H⟩ | ⟨c12, H⟩
      ·have c12b0 : decide (97 ≤ a0) = true := decide_eq_true c12; clear c12; obtain rfl := Option.some.inj H
       go_enter Tryz.func70, Tryz.ntmps70
       go_wp2; go_ret
       exact ⟨zS, zD⟩
      ·have c12b0 : decide (97 ≤ a0) = false := decide_eq_false c12; clear c12; obtain rfl := Option.some.inj H
       go_enter Tryz.func70, Tryz.ntmps70
       go_wp2; go_ret
       exact ⟨zS, zD⟩
 ·have c3b0 : decide (65 ≤ a0) = false := decide_eq_false c3; clear c3; replace H := zI H; rcases H with ⟨c13, H⟩ | ⟨c13, H⟩
  ·have c13b0 : decide (48 ≤ a0) = true := decide_eq_true c13; clear c13; replace H := zId H; rcases H with ⟨-, c14b0, H⟩ | ⟨-, c14b0, H⟩
   ·obtain rfl := Option.some.inj H
    go_enter Tryz.func70, Tryz.ntmps70
    go_wp2; go_ret
    exact ⟨zS, zD⟩
   ·replace H := zIe H; rcases H with ⟨-, c15b0, c15b1, H⟩ | ⟨c15, c15b0, c15b1, H⟩
    ·obtain rfl := Option.some.inj H
     go_enter Tryz.func70, Tryz.ntmps70
     go_wp2; go_ret
     exact ⟨zS, zD⟩
    ·replace H := zIb H; rcases H with ⟨rfl, H⟩ | ⟨rfl, H⟩
     ·obtain rfl := Option.some.inj H
      go_enter Tryz.func70, Tryz.ntmps70
      go_wp2; go_ret
      exact ⟨zS, zD⟩
     ·replace H := zI H; rcases H with ⟨c17, H⟩ | ⟨c17, H⟩
      ·have c17b0 : decide (97 ≤ a0) = true := decide_eq_true c17; clear c17; obtain rfl := Option.some.inj H
       go_enter Tryz.func70, Tryz.ntmps70
       go_wp2; go_ret
       exact ⟨zS, zD⟩
      ·have c17b0 : decide (97 ≤ a0) = false := decide_eq_false c17; clear c17; obtain rfl := Option.some.inj H
       go_enter Tryz.func70, Tryz.ntmps70
       go_wp2; go_ret
       exact ⟨zS, zD⟩
  ·have c13b0 : decide (48 ≤ a0) = false := decide_eq_false c13; clear c13; replace H := zIe H; rcases H with ⟨-, c18b0, c18b1, H⟩ | ⟨c18, c18b0, c18b1, H⟩
   ·obtain rfl := Option.some.inj H
    go_enter Tryz.func70, Tryz.ntmps70
    go_wp2; go_ret
    exact ⟨zS, zD⟩
   ·replace H := zIb H; rcases H with ⟨rfl, H⟩ | ⟨rfl, H⟩
    ·obtain rfl := Option.some.inj H
     go_enter Tryz.func70, Tryz.ntmps70
     go_wp2; go_ret
     exact ⟨zS, zD⟩
    ·replace H := zI H; rcases H with ⟨c20, H⟩ | ⟨c20, H⟩
     ·have c20b0 : decide (97 ≤ a0) = true := decide_eq_true c20; clear c20; obtain rfl := Option.some.inj H
      go_enter Tryz.func70, Tryz.ntmps70
      go_wp2; go_ret
      exact ⟨zS, zD⟩
     ·have c20b0 : decide (97 ≤ a0) = false := decide_eq_false c20; clear c20; obtain rfl := Option.some.inj H
      go_enter Tryz.func70, Tryz.ntmps70
      go_wp2; go_ret
      exact ⟨zS, zD⟩
end Go.Proofs.YtdojmdbaiddkgaaGreatDoor.Print
end
section
set_option linter.unusedVariables false
set_option linter.unusedSimpArgs false
namespace Go.Proofs.YtdojmdbaiddkgaaGreatDoor.Bld
open Go.RowKit
theorem blk_set {w : World} {g : Nat} {t : TypeId} {cs : Array Value} (h : w.heap[g]? = some (.cells cs t (0, 0))) (i : Nat) (u : Value) : (w.setCell ⟨g, i, none⟩ u).heap[g]? = some (.cells (cs.setIfInBounds i u) t (0, 0)) := by
  simp [World.setCell, Array.getElem?_modify, h]
theorem infoByte : (Tryz.prog.info? 5).map (fun i => (i.zero, i.size, i.bytes)) = some (some (.int .u8 0), 1, 1) := by kernel_rfl
theorem sizeBuilder : (Tryz.prog.info? 84).map (·.size) = some 2 := by kernel_rfl
theorem liesBuilder : liesAt Tryz.prog Tryz.prog.depth 84 (2 / Tryz.prog.cellsOf 84) 0 84 1 = true := by kernel_rfl
set_option maxHeartbeats 1000000 in
set_option maxRecDepth 100000 in
theorem copyCheck_used (b : Nat) (w : World) (h0 : w.cell? ⟨b, 0, none⟩ = some (.pointer (some ⟨b, 0, none⟩))) :
    Calls Tryz.prog 79 #[.pointer (some ⟨b, 0, none⟩)] w fun e w' => e = .returned (.tuple #[]) ∧ w' = w := by
  obtain ⟨j, hj, _⟩ := Option.map_eq_some_iff.1 sizeBuilder
  go_enter Tryz.func79, Tryz.ntmps79
  go_wp2
  rw [Lib.run_neq_ptr_same w _ Tryz.underlying81 hj]
  go_wp2
  go_end0
  exact ⟨rfl, rfl⟩
set_option maxHeartbeats 1000000 in
set_option maxRecDepth 100000 in
theorem copyCheck_fresh (b : Nat) (w : World) (h0 : w.cell? ⟨b, 0, none⟩ = some (.pointer none)) (hsh : w.shape? b = some (84, 2)) (hfz : w.frozen? ⟨b, 0, none⟩ = false) :
    Calls Tryz.prog 79 #[.pointer (some ⟨b, 0, none⟩)] w fun e w' => e = .returned (.tuple #[]) ∧ w' = w.setCell ⟨b, 0, none⟩ (.pointer (some ⟨b, 0, none⟩)) := by
  obtain ⟨j, hj, hjs⟩ := Option.map_eq_some_iff.1 sizeBuilder
  go_enter Tryz.func79, Tryz.ntmps79
  go_wp2
  rw [Lib.run_to_unsafe w ⟨b, 0, none⟩ Tryz.underlying81 Tryz.underlying143 hj (by rw [hjs]; decide) hsh (Nat.zero_lt_succ 1)]
  simp only [Result.andThen]
  rw [Oper.upon_value]
  go_wp2
  rw [run_callFunc_extern Tryz.func94 (by kernel_rfl) (by kernel_rfl) (by kernel_rfl) (e := Extern.AbiNoEscape.same) (by kernel_rfl)]
  rw [Lib.run_noEscape]
  simp only [Result.andThen]
  rw [Oper.upon_value]
  go_wp2
  rw [Lib.run_from_unsafe w ⟨b, 0, none⟩ Tryz.underlying143 Tryz.underlying81 hj hsh liesBuilder]
  simp only [Result.andThen]
  rw [Oper.upon_value]
  go_wp2
  go_end0
  exact ⟨rfl, rfl⟩
theorem copyCheck (B b : Nat) (bs : List Value) (w : World) (h : Lib.IsBuilderF 84 5 B b bs w) :
    Calls Tryz.prog 79 #[.pointer (some ⟨b, 0, none⟩)] w fun e w' => e = .returned (.tuple #[]) ∧ (Lib.BuilderAtF 84 5 B b (.pointer (some ⟨b, 0, none⟩)) bs w' ∧ Below B w w' ∧ Lib.OthersKept 5 (some b) w w') := by
  rcases h with h | h
  · refine (copyCheck_fresh b w h.cell0 h.shape h.frozen0).mono ?_
    rintro e w' ⟨rfl, rfl⟩
    exact ⟨rfl, h.used _, (Below.refl B w).setCell (p := ⟨b, 0, none⟩) h.1 _, (Lib.OthersKept.refl _ _ w).setCell ⟨b, 0, none⟩ rfl _⟩
  · refine (copyCheck_used b w h.cell0).mono ?_
    rintro e w' ⟨rfl, rfl⟩
    exact ⟨rfl, h, Below.refl B _, Lib.OthersKept.refl _ _ _⟩
set_option maxHeartbeats 2000000 in
set_option maxRecDepth 100000 in
theorem WriteByte (B b : Nat) (bs : List Value) (c : Int) (w : World) (h : Lib.IsBuilderF 84 5 B b bs w) (hlen : bs.length + 1 ≤ 140737488355328) (hBw : B ≤ w.heap.size) :
    Calls Tryz.prog 65 #[.pointer (some ⟨b, 0, none⟩), .int .u8 c] w fun e w' => e = .returned .nilIface ∧ (Lib.BuilderAtF 84 5 B b (.pointer (some ⟨b, 0, none⟩)) (bs ++ [.int .u8 c]) w' ∧ Below B w w' ∧ Lib.OthersKept 5 (some b) w w') := by
  obtain ⟨i0, hi, hz0, hz1, hz2⟩ := info_parts infoByte
  go_enter Tryz.func65, Tryz.ntmps65
  go_wp2_with (go_at_call 79; refine (copyCheck B b bs _ h).mono ?_)
  rintro e w1 ⟨rfl, h1, hb1, hk1⟩
  obtain ⟨hB, v, hbk, hown, hne⟩ := h1
  have c0 : w1.cell? ⟨b, 0, none⟩ = some (.pointer (some ⟨b, 0, none⟩)) := by rw [Lib.cell_of_heap hbk]; rfl
  have c1 : w1.cell? ⟨b, 1, none⟩ = some v := by rw [Lib.cell_of_heap hbk]; rfl
  go_wp2_with (at_builtin; refine wpList_append_ownF _ rfl _ _ 82 rfl B 5 i0 (.int .u8 0) 1 1 Tryz.underlying82 hi hz0 hz1 hz2 rfl (by decide) _ _ _ rfl (hown.alloc _) ⟨w1.heap.size, 0, none⟩ 1 1 [.int .u8 c] rfl rfl ?c1 ?c2 ?c3 ?c4 ?c5 ?_)
  case c1 =>
    intro j u hj
    match j, hj with
    | 0, hj => simp at hj; subst hj; simp [Addr.add]
  case c2 => intro u hu; simp at hu; subst hu; rfl
  case c3 => unfold maxLen; omega
  case c4 => omega
  case c5 => have := hb1.size; simp; omega
  intro v' w2 hown' hgrow _
  have hlt : b < w1.heap.size := by
    rcases Nat.lt_or_ge b w1.heap.size with h' | h'
    · exact h'
    · simp [Array.getElem?_eq_none h'] at hbk
  have hb2 : w2.heap[b]? = some (.cells #[.pointer (some ⟨b, 0, none⟩), v] 84 (0, 0)) := by
    rw [hgrow.block b (by simp; omega) (fun e => hne e.symm), Lib.alloc_old w1 _ b hlt]
    exact hbk
  have d0 : w2.cell? ⟨b, 0, none⟩ = some (.pointer (some ⟨b, 0, none⟩)) := by rw [Lib.cell_of_heap hb2]; rfl
  have d1 : w2.cell? ⟨b, 1, none⟩ = some v := by rw [Lib.cell_of_heap hb2]; rfl
  have f1 : w2.frozen? ⟨b, 1, none⟩ = false := Lib.frozen_of_heap hb2 1
  obtain ⟨g, cap, rfl⟩ : ∃ g cap, v' = .slice (some ⟨g, 0, none⟩) (bs.length + 1) cap := by
    rcases hown'.2 with ⟨_, h0⟩ | ⟨g, cap, cur, fz, hv, _⟩
    · omega
    · exact ⟨g, cap, hv⟩
  go_wp2
  go_ret
  refine ⟨rfl, ?_, ?_, ((hk1.alloc _).grown hgrow (Lib.ownsRowF_kind (hown.alloc _))).setCell ⟨b, 1, none⟩ rfl _⟩
  · exact Lib.BuilderAtF.put (T := 84) (e := 5) hB hb2 (bs' := bs ++ [.int .u8 c]) (by simpa using hown') (by decide)
  · exact ((hb1.alloc (by have := hb1.size; omega) _).grown hgrow (by have := hb1.size; simp; omega) (fun k hk => (hown.lt k hk).1)).setCell (p := ⟨b, 1, none⟩) hB _
set_option maxHeartbeats 2000000 in
set_option maxRecDepth 100000 in
theorem WriteString (B b : Nat) (bs : List Value) (s : ByteArray) (w : World) (h : Lib.IsBuilderF 84 5 B b bs w) (hlen : bs.length + s.size ≤ 140737488355328) (hBw : B ≤ w.heap.size) :
    Calls Tryz.prog 63 #[.pointer (some ⟨b, 0, none⟩), .string s] w fun e w' => e = .returned (.tuple #[.int .i64 s.size, .nilIface]) ∧ (Lib.BuilderAtF 84 5 B b (.pointer (some ⟨b, 0, none⟩)) (bs ++ Lib.strCells s) w' ∧ Below B w w' ∧ Lib.OthersKept 5 (some b) w w') := by
  obtain ⟨i0, hi, hz0, hz1, hz2⟩ := info_parts infoByte
  go_enter Tryz.func63, Tryz.ntmps63
  go_wp2_with (go_at_call 79; refine (copyCheck B b bs _ h).mono ?_)
  rintro e w1 ⟨rfl, h1, hb1, hk1⟩
  obtain ⟨hB, v, hbk, hown, hne⟩ := h1
  have c0 : w1.cell? ⟨b, 0, none⟩ = some (.pointer (some ⟨b, 0, none⟩)) := by rw [Lib.cell_of_heap hbk]; rfl
  have c1 : w1.cell? ⟨b, 1, none⟩ = some v := by rw [Lib.cell_of_heap hbk]; rfl
  go_wp2_with (at_builtin; refine Lib.wpList_append_own_stringF _ rfl _ _ 82 9 rfl B 5 i0 Tryz.underlying82 Tryz.underlying9 hi hz0 hz1 hz2 _ _ _ rfl hown s rfl ?c3 ?c4 ?c5 ?_)
  case c3 => unfold maxLen; omega
  case c4 => omega
  case c5 => have := hb1.size; omega
  intro v' w2 hown' hgrow _
  have hlt : b < w1.heap.size := by
    rcases Nat.lt_or_ge b w1.heap.size with h' | h'
    · exact h'
    · simp [Array.getElem?_eq_none h'] at hbk
  have hb2 : w2.heap[b]? = some (.cells #[.pointer (some ⟨b, 0, none⟩), v] 84 (0, 0)) := by
    rw [hgrow.block b hlt (fun e => hne e.symm)]
    exact hbk
  have d0 : w2.cell? ⟨b, 0, none⟩ = some (.pointer (some ⟨b, 0, none⟩)) := by rw [Lib.cell_of_heap hb2]; rfl
  have d1 : w2.cell? ⟨b, 1, none⟩ = some v := by rw [Lib.cell_of_heap hb2]; rfl
  have f1 : w2.frozen? ⟨b, 1, none⟩ = false := Lib.frozen_of_heap hb2 1
  obtain ⟨ao, n', cap, rfl⟩ : ∃ ao n' cap, v' = .slice ao n' cap := by
    rcases hown'.2 with ⟨hv, _⟩ | ⟨g, cap, cur, fz, hv, _⟩
    · exact ⟨_, _, _, hv⟩
    · exact ⟨_, _, _, hv⟩
  go_wp2
  go_ret2
  refine ⟨rfl, ?_, ?_, (hk1.grown hgrow (Lib.ownsRowF_kind hown)).setCell ⟨b, 1, none⟩ rfl _⟩
  · exact Lib.BuilderAtF.put (T := 84) (e := 5) hB hb2 (bs' := bs ++ Lib.strCells s) (by simpa [Lib.strCells_length] using hown') (by decide)
  · exact (hb1.grown hgrow (by have := hb1.size; omega) (fun k hk => (hown.lt k hk).1)).setCell (p := ⟨b, 1, none⟩) hB _
/-- A builder at block b, made at or above block B, holds the bytes l. -/
structure Has (B b : Nat) (l : List UInt8) (w : World) : Prop where
  out : Lib.IsBuilderF 84 5 B b (Lib.byteCells l) w
theorem grownB {w w' : World} (hb : Below w.heap.size w w') : w.grownBy w' none := ⟨hb.os, hb.tape, hb.output, hb.size, fun i hi _ => hb.block i hi⟩
theorem Has.new (B : Nat) (w : World) (h : B ≤ w.heap.size) : Has B w.heap.size [] (w.alloc (.cells #[.pointer none, .slice none 0 0] 84)) :=
  ⟨.inl ⟨h, _, by simpa using heap_alloc_new w _, ⟨by simp [Lib.byteCells], .inl ⟨rfl, rfl⟩⟩, by simp [Value.ownBlock]⟩⟩
theorem Has.lt {B b : Nat} {l : List UInt8} {w : World} (h : Has B b l w) : b < w.heap.size := by
  rcases h.out with ⟨_, v, hb, _⟩ | ⟨_, v, hb, _⟩
  · exact (Array.getElem?_eq_some_iff.1 hb).1
  · exact (Array.getElem?_eq_some_iff.1 hb).1
theorem Has.below {B b : Nat} {l : List UInt8} {w w' : World} (h : Has B b l w) (hb : Below w.heap.size w w') : Has B b l w' := by
  rcases h.out with ⟨h1, v, h2, h3, h4⟩ | ⟨h1, v, h2, h3, h4⟩
  · exact ⟨.inl ⟨h1, v, (hb.block _ (Array.getElem?_eq_some_iff.1 h2).1).trans h2, h3.kept (grownB hb) (by cases v.ownBlock <;> simp), h4⟩⟩
  · exact ⟨.inr ⟨h1, v, (hb.block _ (Array.getElem?_eq_some_iff.1 h2).1).trans h2, h3.kept (grownB hb) (by cases v.ownBlock <;> simp), h4⟩⟩
theorem wb (B b : Nat) (l : List UInt8) (c : Int) (x : UInt8) (hx : (x.toNat : Int) = c) (w : World) (h : Has B b l w) (hlen : l.length + 1 ≤ 140737488355328) (hBw : B ≤ w.heap.size) :
    Calls Tryz.prog 65 #[.pointer (some ⟨b, 0, none⟩), .int .u8 c] w fun e w' => e = .returned .nilIface ∧ Has B b (l ++ [x]) w' ∧ Below B w w' ∧ Lib.OthersKept 5 (some b) w w' := by
  subst hx
  refine (WriteByte B b (Lib.byteCells l) x.toNat w h.out (by rw [Lib.byteCells_length]; exact hlen) hBw).mono ?_
  rintro e w' ⟨he, h1, h2, h3⟩
  exact ⟨he, ⟨.inr (by simpa [Lib.byteCells] using h1)⟩, h2, h3⟩
theorem ws (B b : Nat) (l : List UInt8) (s : ByteArray) (w : World) (h : Has B b l w) (hlen : l.length + s.size ≤ 140737488355328) (hBw : B ≤ w.heap.size) :
    Calls Tryz.prog 63 #[.pointer (some ⟨b, 0, none⟩), .string s] w fun e w' => e = .returned (.tuple #[.int .i64 s.size, .nilIface]) ∧ Has B b (l ++ s.data.toList) w' ∧ Below B w w' ∧ Lib.OthersKept 5 (some b) w w' := by
  refine (WriteString B b (Lib.byteCells l) s w h.out (by rw [Lib.byteCells_length]; exact hlen) hBw).mono ?_
  rintro e w' ⟨he, h1, h2, h3⟩
  exact ⟨he, ⟨.inr (by simpa [Lib.byteCells, Lib.strCells] using h1)⟩, h2, h3⟩
theorem str (B b : Nat) (l : List UInt8) (w : World) (h : Has B b l w) (hBw : B ≤ w.heap.size) :
    Calls Tryz.prog 41 #[.pointer (some ⟨b, 0, none⟩)] w fun e w' => e = .returned (.string ⟨l.toArray⟩) ∧ Has B b l w' ∧ Below B w w' ∧ Lib.OthersKept 5 (some b) w w' := by
  refine (Tryz.Builder_String_any_k B b l w h.out hBw).mono ?_
  rintro e w' ⟨he, h1, h2, h3⟩
  exact ⟨he, ⟨h1⟩, h2, h3⟩
theorem len (B b : Nat) (l : List UInt8) (w : World) (h : Has B b l w) :
    Calls Tryz.prog 39 #[.pointer (some ⟨b, 0, none⟩)] w fun e w' => e = .returned (.int .i64 l.length) ∧ w' = w := by
  have := Tryz.Builder_Len_f B b (Lib.byteCells l) w h.out
  rw [Lib.byteCells_length] at this
  exact this
end Go.Proofs.YtdojmdbaiddkgaaGreatDoor.Bld
end
section
set_option linter.unusedVariables false
set_option linter.unusedSimpArgs false
namespace Go.Proofs.YtdojmdbaiddkgaaGreatDoor.Print
open Go.RowKit Go.Proofs.YtdojmdbaiddkgaaGreatDoorW.PrintWords Go.Proofs.YtdojmdbaiddkgaaGreatDoorW.PrintLast Go.Proofs.YtdojmdbaiddkgaaGreatDoorW.PrintMore
/-- What is read. -/
def carL : List UInt8 → List UInt8
  | [] => []
  | [x] => [x]
  | x :: y :: t => if x = 94 then (if y = 110 then 10 :: carL t else if y = 39 then 34 :: carL t else if y = 94 then 94 :: carL t else 94 :: carL (y :: t)) else x :: carL (y :: t)
theorem drop_one (s : ByteArray) (k : Nat) (h : k < s.size) : s.data.toList.drop k = s[k] :: s.data.toList.drop (k + 1) := by
  rw [List.drop_eq_getElem_cons (by simpa using h)]; rfl
theorem u8_ne (x : UInt8) (n : Nat) (hn : n < 256) (h : x ≠ n.toUInt8) : ((x.toNat : Int) == (n : Int)) = false :=
  beq_eq_false_iff_ne.2 (fun e => h (by apply UInt8.toNat_inj.1; have : x.toNat = n := by omega
                                        rw [this]; simp; omega))
def escape_caret.f (a0 : ByteArray) : Option ByteArray := if a0.size ≤ 140737488355328 then some ⟨(carL a0.data.toList).toArray⟩ else none
set_option maxHeartbeats 1600000 in
set_option maxRecDepth 100000 in
theorem escape_caret.calls (a0 : ByteArray) (r : ByteArray) (w : World) (hG : GG w) (h : escape_caret.f a0 = some r) :
    Calls Tryz.prog 103 #[.string a0] w fun e w' => e = .returned (.string r) ∧ Below w.heap.size w w' := by
  by_cases hs : a0.size ≤ 140737488355328
  case neg => simp only [escape_caret.f] at h; rw [if_neg hs] at h; cases h
  simp only [escape_caret.f] at h
  rw [if_pos hs] at h
  obtain rfl := Option.some.inj h
  clear h
  go_enter Tryz.func103, Tryz.ntmps103
  go_wp2
  go_loopg [4] a0.size (fun g v4 wr => ∃ (i : Nat) (L : List UInt8), i ≤ a0.size ∧ Aside0 (a0.size ≤ i + g) ∧ v4 = .int .i64 i ∧ L.length ≤ i ∧ Aside0 (L ++ carL (a0.data.toList.drop i) = carL a0.data.toList) ∧ Aside0 (Bld.Has w.heap.size w.heap.size L wr) ∧ Aside0 (Below w.heap.size w wr))
  case atStart => exact ⟨0, [], by omega, ⟨by omega⟩, rfl, by simp, ⟨by simp⟩, ⟨Bld.Has.new _ _ (Nat.le_refl _)⟩, ⟨(Below.refl _ _).alloc (Nat.le_refl _) _⟩⟩
  case round =>
    obtain ⟨i, L, hi, HG, rfl, hL, HE, HH, HB⟩ := hrel
    have hsz := HB.out.size
    by_cases hlt : i < a0.size
    case neg =>
      obtain rfl : i = a0.size := by omega
      have hd : decide (a0.size < a0.size) = false := by simp
      go_wp2_with (go_at_call 41; refine (Bld.str _ _ _ _ HH.out hsz).mono ?_; rintro e w3 ⟨rfl, h1, h2, h3⟩)
      go_ret
      exact ⟨by have := HE.out; rw [List.drop_of_length_le (by simp)] at this; simp only [carL, List.append_nil] at this; rw [this]; rfl, HB.out.trans h2⟩
    cases gk with
    | zero => have := HG.out; omega
    | succ g =>
      have hd : decide (i < a0.size) = true := by simp; omega
      have hdr := drop_one a0 i hlt
      obtain ⟨x, hx⟩ : ∃ x : UInt8, a0[i] = x := ⟨_, rfl⟩
      rw [hx] at hdr
      have hb0 := x.toNat_lt
      have HD := Aside0.mk hdr
      clear hdr
      by_cases hx94 : x = 94
      case neg =>
        have e1 : ((x.toNat : Int) == 94) = false := u8_ne x 94 (by omega) hx94
        have HN : Aside0 (carL (a0.data.toList.drop i) = x :: carL (a0.data.toList.drop (i + 1))) := ⟨by
          rw [HD.out]
          cases a0.data.toList.drop (i + 1) with
          | nil => rfl
          | cons y t => simp only [carL]; rw [if_neg hx94]⟩
        clear hx94
        go_wp2_with fail
        refine (Bld.wb _ _ _ _ x rfl _ HH.out (by omega) hsz).mono ?_
        rintro e w4 ⟨rfl, k1, k2, k3⟩
        go_wp2
        go_roundg g
        case measure => have := HG.out; omega
        case rel => exact ⟨i + 1, L ++ [x], by omega, ⟨by have := HG.out; omega⟩, by go_num, by simp; omega, ⟨by have := HE.out; rw [HN.out] at this; simpa using this⟩, ⟨k1⟩, ⟨HB.out.trans k2⟩⟩
      subst hx94
      by_cases hl2 : i + 1 < a0.size
      case neg =>
        have hd2 : decide (i + 1 < a0.size) = false := by simp; omega
        have hd3 : decide ((i : Int) + 1 < (a0.size : Int)) = false := by simp; omega
        have e1 : (((94 : UInt8).toNat : Int) == 94) = true := rfl
        have HN : Aside0 (carL (a0.data.toList.drop i) = [94]) := ⟨by rw [HD.out, List.drop_of_length_le (by simp; omega)]; rfl⟩
        go_wp2_with fail
        refine (Bld.wb _ _ _ _ 94 rfl _ HH.out (by omega) hsz).mono ?_
        rintro e w4 ⟨rfl, k1, k2, k3⟩
        go_wp2
        go_roundg g
        case measure => have := HG.out; omega
        case rel => exact ⟨i + 1, L ++ [94], by omega, ⟨by have := HG.out; omega⟩, by go_num, by simp; omega, ⟨by have := HE.out; rw [HN.out] at this; rw [List.drop_of_length_le (by simp; omega)]; simpa [carL] using this⟩, ⟨k1⟩, ⟨HB.out.trans k2⟩⟩
      have hd2 : decide (i + 1 < a0.size) = true := by simp; omega
      have hd3 : decide ((i : Int) + 1 < (a0.size : Int)) = true := by simp; omega
      have e1 : (((94 : UInt8).toNat : Int) == 94) = true := rfl
      have hdr := drop_one a0 (i + 1) hl2
      obtain ⟨y, hy⟩ : ∃ y : UInt8, a0[i + 1] = y := ⟨_, rfl⟩
      rw [hy] at hdr
      have hb1 := y.toNat_lt
      have HD2 := Aside0.mk hdr
      clear hdr
      have hn : ((i : Int) + 1).toNat = i + 1 := by omega
      have h01 : (0 : Int) ≤ (i : Int) + 1 := by omega
      have hm1 : IntKind.i64.wrap ((i : Int) + 1 - 1) = (i : Int) := by unfold IntKind.wrap; simp [IntKind.bits, IntKind.signed]; omega
      by_cases hy110 : y = 110
      case pos =>
        have e2 : ((y.toNat : Int) == 110) = true := by subst hy110; rfl
        have HN : Aside0 (carL (a0.data.toList.drop i) = 10 :: carL (a0.data.toList.drop (i + 2))) := ⟨by rw [HD.out, HD2.out, hy110]; simp [carL]⟩
        clear hy110
        go_wp2_with fail
        refine (Bld.wb _ _ _ _ 10 rfl _ HH.out (by omega) hsz).mono ?_
        rintro e w4 ⟨rfl, k1, k2, k3⟩
        go_wp2
        go_roundg g
        case measure => have := HG.out; omega
        case rel => exact ⟨i + 2, L ++ [10], by omega, ⟨by have := HG.out; omega⟩, by go_num, by simp; omega, ⟨by have := HE.out; rw [HN.out] at this; simpa using this⟩, ⟨k1⟩, ⟨HB.out.trans k2⟩⟩
      have f2 : ((y.toNat : Int) == 110) = false := u8_ne y 110 (by omega) hy110
      by_cases hy39 : y = 39
      case pos =>
        have e2 : ((y.toNat : Int) == 39) = true := by subst hy39; rfl
        have HN : Aside0 (carL (a0.data.toList.drop i) = 34 :: carL (a0.data.toList.drop (i + 2))) := ⟨by rw [HD.out, HD2.out, hy39]; simp [carL]⟩
        clear hy110 hy39
        go_wp2_with fail
        refine (Bld.wb _ _ _ _ 34 rfl _ HH.out (by omega) hsz).mono ?_
        rintro e w4 ⟨rfl, k1, k2, k3⟩
        go_wp2
        go_roundg g
        case measure => have := HG.out; omega
        case rel => exact ⟨i + 2, L ++ [34], by omega, ⟨by have := HG.out; omega⟩, by go_num, by simp; omega, ⟨by have := HE.out; rw [HN.out] at this; simpa using this⟩, ⟨k1⟩, ⟨HB.out.trans k2⟩⟩
      have f3 : ((y.toNat : Int) == 39) = false := u8_ne y 39 (by omega) hy39
      by_cases hy94 : y = 94
      case pos =>
        have e2 : ((y.toNat : Int) == 94) = true := by subst hy94; rfl
        have HN : Aside0 (carL (a0.data.toList.drop i) = 94 :: carL (a0.data.toList.drop (i + 2))) := ⟨by rw [HD.out, HD2.out, hy94]; simp [carL]⟩
        clear hy110 hy39 hy94
        go_wp2_with fail
        refine (Bld.wb _ _ _ _ 94 rfl _ HH.out (by omega) hsz).mono ?_
        rintro e w4 ⟨rfl, k1, k2, k3⟩
        go_wp2
        go_roundg g
        case measure => have := HG.out; omega
        case rel => exact ⟨i + 2, L ++ [94], by omega, ⟨by have := HG.out; omega⟩, by go_num, by simp; omega, ⟨by have := HE.out; rw [HN.out] at this; simpa using this⟩, ⟨k1⟩, ⟨HB.out.trans k2⟩⟩
      have f4 : ((y.toNat : Int) == 94) = false := u8_ne y 94 (by omega) hy94
      have HN : Aside0 (carL (a0.data.toList.drop i) = 94 :: carL (a0.data.toList.drop (i + 1))) := ⟨by rw [HD.out, HD2.out]; simp [carL, hy110, hy39, hy94]⟩
      clear hy110 hy39 hy94
      go_wp2_with fail
      refine (Bld.wb _ _ _ _ 94 rfl _ HH.out (by omega) hsz).mono ?_
      rintro e w4 ⟨rfl, k1, k2, k3⟩
      go_wp2
      go_roundg g
      case measure => have := HG.out; omega
      case rel => exact ⟨i + 1, L ++ [94], by omega, ⟨by have := HG.out; omega⟩, by go_num, by simp; omega, ⟨by have := HE.out; rw [HN.out] at this; simpa using this⟩, ⟨k1⟩, ⟨HB.out.trans k2⟩⟩
end Go.Proofs.YtdojmdbaiddkgaaGreatDoor.Print
end
section
namespace Go.Proofs.YtdojmdbaiddkgaaGreatDoor.Print
open Go.RowKit Go.Proofs.YtdojmdbaiddkgaaGreatDoorW.PrintWords Go.Proofs.YtdojmdbaiddkgaaGreatDoorW.PrintLast Go.Proofs.YtdojmdbaiddkgaaGreatDoorW.PrintMore
set_option linter.unusedVariables false
set_option linter.unusedSimpArgs false
def line_reader_peek.f (s0_0 : ByteArray) (s0_1 : Int) (s0_2 : Int) : Option (Int × ByteArray × Int × Int) := if s0_2 = 0 then (if s0_1 ≥ (s0_0.size : Int) then (some (0, s0_0, s0_1, s0_2)) else (if 0 ≤ s0_1 then (if s0_1 < (s0_0.size : Int) then (some (bt s0_0 s0_1, s0_0, s0_1, s0_2)) else (none)) else (none))) else (some (0, s0_0, s0_1, s0_2))
set_option maxHeartbeats 8000000 in
set_option maxRecDepth 100000 in
theorem line_reader_peek.calls (g : Nat) (s0_0 : ByteArray) (s0_1 : Int) (s0_2 : Int) (r1 : Int) (r2 : ByteArray) (r3 : Int) (r4 : Int) (w0 w : World) (hG : GG w0) (hI : IsS98 w0 w g s0_0 s0_1 s0_2) (hB : Below w0.heap.size w0 w) (h : line_reader_peek.f s0_0 s0_1 s0_2 = some (r1, r2, r3, r4)) :
  Calls Tryz.prog 52 #[.pointer (some ⟨g, 0, none⟩)] w fun e w' => e = .returned (.int .u8 r1) ∧ IsS98 w0 w' g r2 r3 r4 ∧ Below w0.heap.size w0 w' ∧ KeepBut w w' g none := by
 have HI0 := Aside0.mk hI; have HK := Aside0.mk (KeepBut.refl w g none); have HL := Aside0.mk hB.size; clear hI; have HW0 := Aside0.mk hB.size; have HB := Aside0.mk hB; clear hB; have H : (if s0_2 = 0 then (if s0_1 ≥ (s0_0.size : Int) then (some (0, s0_0, s0_1, s0_2)) else (if 0 ≤ s0_1 then (if s0_1 < (s0_0.size : Int) then (some (bt s0_0 s0_1, s0_0, s0_1, s0_2)) else (none)) else (none))) else (some (0, s0_0, s0_1, s0_2))) = some (r1, r2, r3, r4) := h; clear h; replace H := zIe H; rcases H with ⟨-, c2b0, c2b1, H⟩ | ⟨c2, c2b0, c2b1, H⟩
 ·replace H := zI H; rcases H with ⟨c3, H⟩ | ⟨c3, H⟩
  ·have c3b0 : decide ((s0_0.size : Int) ≤ s0_1) = true := decide_eq_true c3; clear c3; simp only [Option.some.injEq, Prod.mk.injEq] at H; obtain ⟨rfl, rfl, rfl, rfl⟩ := H; obtain ⟨HGz4, hgz4⟩ := HI0.out; have hcz4_0 := cellS98_0 HGz4; have hcz4_1 := cellS98_1 HGz4; have hcz4_2 := cellS98_2 HGz4; have hfz4_0 := blk_frozen HGz4 0; have hfz4_1 := blk_frozen HGz4 1; have hfz4_2 := blk_frozen HGz4 2; clear HGz4 hgz4
   go_enter Tryz.func52, Tryz.ntmps52
   go_wp2
   repeat (go_quiet (fail); try go_wp2)
   go_ret; exact ⟨zE, by repeat (first | (with_reducible first | exact HI0.out | apply IsS98.alloc | apply IsS98.drewN | apply IsS98.drew | apply IsS98.set_0 | apply IsS98.set_1 | apply IsS98.set_2) | exact HI0.out), by repeat (first | (with_reducible first | exact HB.out | apply below_alloc | apply pw_below_drewN | apply below_drew1 | refine below_set ?_ (IsS98.ge HI0.out)) | exact HB.out), by repeat (first | (with_reducible first | exact HK.out | apply KeepBut.set_ | apply keep_drewN | apply keep_drew | apply keep_alloc) | exact HK.out)⟩
  ·have c3b0 : decide ((s0_0.size : Int) ≤ s0_1) = false := decide_eq_false c3; clear c3; replace H := zJJ H; obtain ⟨c5b0, c6b0, H⟩ := H; simp only [Option.some.injEq, Prod.mk.injEq] at H; obtain ⟨rfl, rfl, rfl, rfl⟩ := H; obtain ⟨HGz8, hgz8⟩ := HI0.out; have hcz8_0 := cellS98_0 HGz8; have hcz8_1 := cellS98_1 HGz8; have hcz8_2 := cellS98_2 HGz8; have hfz8_0 := blk_frozen HGz8 0; have hfz8_1 := blk_frozen HGz8 1; have hfz8_2 := blk_frozen HGz8 2; clear HGz8 hgz8; obtain ⟨p7, q7, hx7⟩ := zbt s0_0 s0_1
   go_enter Tryz.func52, Tryz.ntmps52
   go_wp2
   repeat (go_quiet (fail); try go_wp2)
   go_ret; exact ⟨zE, by repeat (first | (with_reducible first | exact HI0.out | apply IsS98.alloc | apply IsS98.drewN | apply IsS98.drew | apply IsS98.set_0 | apply IsS98.set_1 | apply IsS98.set_2) | exact HI0.out), by repeat (first | (with_reducible first | exact HB.out | apply below_alloc | apply pw_below_drewN | apply below_drew1 | refine below_set ?_ (IsS98.ge HI0.out)) | exact HB.out), by repeat (first | (with_reducible first | exact HK.out | apply KeepBut.set_ | apply keep_drewN | apply keep_drew | apply keep_alloc) | exact HK.out)⟩
 ·simp only [Option.some.injEq, Prod.mk.injEq] at H; obtain ⟨rfl, rfl, rfl, rfl⟩ := H; obtain ⟨HGz9, hgz9⟩ := HI0.out; have hcz9_0 := cellS98_0 HGz9; have hcz9_1 := cellS98_1 HGz9; have hcz9_2 := cellS98_2 HGz9; have hfz9_0 := blk_frozen HGz9 0; have hfz9_1 := blk_frozen HGz9 1; have hfz9_2 := blk_frozen HGz9 2; clear HGz9 hgz9
  go_enter Tryz.func52, Tryz.ntmps52
  go_wp2
  repeat (go_quiet (fail); try go_wp2)
  go_ret; exact ⟨zE, by repeat (first | (with_reducible first | exact HI0.out | apply IsS98.alloc | apply IsS98.drewN | apply IsS98.drew | apply IsS98.set_0 | apply IsS98.set_1 | apply IsS98.set_2) | exact HI0.out), by repeat (first | (with_reducible first | exact HB.out | apply below_alloc | apply pw_below_drewN | apply below_drew1 | refine below_set ?_ (IsS98.ge HI0.out)) | exact HB.out), by repeat (first | (with_reducible first | exact HK.out | apply KeepBut.set_ | apply keep_drewN | apply keep_drew | apply keep_alloc) | exact HK.out)⟩
def escape_control.f (a0 : Int) (a1 : Bool) : Option (Bool) := if a0 = 9 then (some false) else (if a0 = 10 then (some (!a1)) else (if a0 < 32 then (some true) else (some (a0 == 127))))
set_option maxHeartbeats 8000000 in
set_option maxRecDepth 100000 in
theorem escape_control.calls (a0 : Int) (a1 : Bool) (r : Bool) (w : World) (hG : GG w) (h : escape_control.f a0 a1 = some r) :
  Calls Tryz.prog 78 #[.int .u8 a0, .bool a1] w fun e w' => e = .returned (.bool r) ∧ Drawn0 w w' := by
 have H : (if a0 = 9 then (some false) else (if a0 = 10 then (some (!a1)) else (if a0 < 32 then (some true) else (some (a0 == 127))))) = some r := h; clear h; replace H := zIe H; rcases H with ⟨-, c3b0, c3b1, H⟩ | ⟨c3, c3b0, c3b1, H⟩
 ·obtain rfl := Option.some.inj H
  go_enter Tryz.func78, Tryz.ntmps78
  go_wp2; go_ret
  exact ⟨zS, zD⟩
 ·replace H := zIe H; rcases H with ⟨-, c4b0, c4b1, H⟩ | ⟨c4, c4b0, c4b1, H⟩
  ·obtain rfl := Option.some.inj H
   go_enter Tryz.func78, Tryz.ntmps78
   go_wp2; go_ret
   exact ⟨zS, zD⟩
  ·replace H := zId H; rcases H with ⟨-, c5b0, H⟩ | ⟨-, c5b0, H⟩
   ·obtain rfl := Option.some.inj H
    go_enter Tryz.func78, Tryz.ntmps78
    go_wp2; go_ret
    exact ⟨zS, zD⟩
   ·obtain rfl := Option.some.inj H
    go_enter Tryz.func78, Tryz.ntmps78
    go_wp2; go_ret
    exact ⟨zS, zD⟩
def escape_Clean.l0 : Nat → ByteArray → Bool → Int → Int → Option (Int)
 | 0, _, _, _, _ => none
 | k + 1, x0, x1, x10, x11 => if x11 < x10 then (if 0 ≤ x11 then (if x11 < (x0.size : Int) then ((escape_control.f (bt x0 x11) x1).bind fun t130 => (if t130 = true then (some 7) else (escape_Clean.l0 k x0 x1 x10 (wrap64 (x11 + 1))))) else (none)) else (none)) else (some 0)
def escape_Clean.f (k : Nat) (a0 : ByteArray) (a1 : Bool) : Option (Int) := (utf8_ValidString.f a0).bind fun t129 => (if t129 = true then (escape_Clean.l0 k a0 a1 (a0.size : Int) 0) else (some 3))
theorem escape_Clean.mono_l : ∀ k, (∀ y0 y1 y2 y3, LeO (escape_Clean.l0 k y0 y1 y2 y3) (escape_Clean.l0 (k + 1) y0 y1 y2 y3))
 | 0 => fun _ _ _ _ r h => by simp [escape_Clean.l0] at h
 | k + 1 => by
  have ih0 := escape_Clean.mono_l k
  ·intro y0 y1 y2 y3
   unfold escape_Clean.l0
   repeat' first
   | (with_reducible first | exact ih0 _ _ _ _ | exact LeO.refl _ | exact LeO.none _ | refine LeO.ite ?_ ?_ | refine LeO.bind ?_ (fun _ => ?_)) | exact ih0 _ _ _ _ | exact LeO.none _ | refine LeO.ite ?_ ?_ | refine LeO.bind ?_ (fun _ => ?_)
theorem escape_Clean.mono : ∀ a0 a1 k, LeO (escape_Clean.f k a0 a1) (escape_Clean.f (k + 1) a0 a1) := by
 intro a0 a1 k
 have ih0 := escape_Clean.mono_l k
 unfold escape_Clean.f
 repeat' first
   | (with_reducible first | exact ih0 _ _ _ _ | exact LeO.refl _ | exact LeO.none _ | refine LeO.ite ?_ ?_ | refine LeO.bind ?_ (fun _ => ?_)) | exact ih0 _ _ _ _ | exact LeO.none _ | refine LeO.ite ?_ ?_ | refine LeO.bind ?_ (fun _ => ?_)
set_option maxHeartbeats 8000000 in
set_option maxRecDepth 100000 in
theorem escape_Clean.calls (k : Nat) (a0 : ByteArray) (a1 : Bool) (r : Int) (w : World) (hG : GG w) (h : escape_Clean.f k a0 a1 = some r) :
  Calls Tryz.prog 55 #[.string a0, .bool a1] w fun e w' => e = .returned (.int .i64 r) ∧ Below w.heap.size w w' := by
 have HB := Aside0.mk (Below.refl w.heap.size w); have H : ((utf8_ValidString.f a0).bind fun t129 => (if t129 = true then (escape_Clean.l0 k a0 a1 (a0.size : Int) 0) else (some 3))) = some r := h; clear h; replace H := zO H; obtain ⟨t129, A3, H⟩ := H; replace H := zIb H; rcases H with ⟨rfl, H⟩ | ⟨rfl, H⟩
 ·have H' := Aside0.mk H; clear H
  go_enter Tryz.func55, Tryz.ntmps55
  go_wp2_with (first | ((with_reducible refine gate_callee (f := 50) rfl ?_); refine zqb 7 Tryz.func50 #[.string a0] (utf8_ValidString.calls a0 true _ zG A3.out) (fun w5 hb => ?_); replace HB := zw hb; (try clear hb)))
  go_loopg [11] k (fun kq v11 w' => ∃ (x11_1 : Int), v11 = .int .i64 x11_1 ∧ Aside0 (escape_Clean.l0 kq a0 a1 (a0.size : Int) x11_1 = some r) ∧ Aside0 (kq ≤ k) ∧ Aside0 (Below w.heap.size w w'))
  case atStart => exact ⟨(0), zS, H', ⟨Nat.le_refl _⟩, ⟨zB⟩⟩
  case round =>
   clear H'; obtain ⟨x11_1, rfl, HA, HK1, HB⟩ := hrel
   cases gk with
   | zero => exact absurd HA.out (by simp [escape_Clean.l0])
   | succ k1 =>
    have H := HA.out; clear HA; simp only [escape_Clean.l0] at H; replace H := zId H; rcases H with ⟨-, c6b0, H⟩ | ⟨-, c6b0, H⟩
    ·replace H := zJJ H; obtain ⟨c7b0, c8b0, H⟩ := H; replace H := zO H; obtain ⟨t130, A10, H⟩ := H; replace H := zIb H; rcases H with ⟨rfl, H⟩ | ⟨rfl, H⟩
     ·obtain rfl := Option.some.inj H; obtain ⟨p9, q9, hx9⟩ := zbt a0 x11_1
      go_wp2_with (first | ((with_reducible refine gate_callee (f := 78) rfl ?_); refine zq 18 Tryz.func78 #[.int .u8 (bt a0 x11_1), .bool a1] (escape_control.calls (bt a0 x11_1) a1 true _ zG A10.out) (fun nd => ?_)))
      go_ret; exact ⟨zE, zB⟩
     ·have H' := Aside0.mk H; clear H; obtain ⟨p9, q9, hx9⟩ := zbt a0 x11_1
      go_wp2_with (first | ((with_reducible refine gate_callee (f := 78) rfl ?_); refine zq 18 Tryz.func78 #[.int .u8 (bt a0 x11_1), .bool a1] (escape_control.calls (bt a0 x11_1) a1 false _ zG A10.out) (fun nd => ?_)))
      go_roundg k1
      case measure => have := HK1.out; omega
      case rel => exact ⟨(wrap64 (x11_1 + 1)), zS, H', ⟨by have := HK1.out; omega⟩, ⟨zB⟩⟩
    ·obtain rfl := Option.some.inj H; go_wp2; go_ret; exact ⟨zE, zB⟩
 ·obtain rfl := Option.some.inj H
  go_enter Tryz.func55, Tryz.ntmps55
  go_wp2_with (first | ((with_reducible refine gate_callee (f := 50) rfl ?_); refine zqb 7 Tryz.func50 #[.string a0] (utf8_ValidString.calls a0 false _ zG A3.out) (fun w12 hb => ?_); replace HB := zw hb; (try clear hb)))
  go_ret; exact ⟨zE, zB⟩
def stringslite_HasPrefix.f (a0 : ByteArray) (a1 : ByteArray) : Option (Bool) := if (a0.size : Int) ≥ (a1.size : Int) then (if 0 ≤ (a1.size : Int) then (if (a1.size : Int) ≤ (a0.size : Int) then (some ((a0.extract 0 ((a1.size : Int) : Int).toNat).toList == a1.toList)) else (none)) else (none)) else (some false)
set_option maxHeartbeats 8000000 in
set_option maxRecDepth 100000 in
theorem stringslite_HasPrefix.calls (a0 : ByteArray) (a1 : ByteArray) (r : Bool) (w : World) (hG : GG w) (h : stringslite_HasPrefix.f a0 a1 = some r) :
  Calls Tryz.prog 109 #[.string a0, .string a1] w fun e w' => e = .returned (.bool r) ∧ Drawn0 w w' := by
 have H : (if (a0.size : Int) ≥ (a1.size : Int) then (if 0 ≤ (a1.size : Int) then (if (a1.size : Int) ≤ (a0.size : Int) then (some ((a0.extract 0 ((a1.size : Int) : Int).toNat).toList == a1.toList)) else (none)) else (none)) else (some false)) = some r := h; clear h; replace H := zI H; rcases H with ⟨c3, H⟩ | ⟨c3, H⟩
 ·have c3b0 : decide ((a1.size : Int) ≤ (a0.size : Int)) = true := decide_eq_true c3; have c3b1 : decide (a1.size ≤ a0.size) = true := decide_eq_true (Int.ofNat_le.mp c3); clear c3; replace H := zJ H; obtain ⟨c4, H⟩ := H; have c4b0 := eq_true c4; have c4b1 : decide (0 ≤ (a1.size : Int)) = true := decide_eq_true c4; clear c4; replace H := zJ H; obtain ⟨c5, H⟩ := H; have c5b0 := eq_true c5; have c5b1 : decide ((a1.size : Int) ≤ (a0.size : Int)) = true := decide_eq_true c5; clear c5; obtain rfl := Option.some.inj H
  go_enter Tryz.func109, Tryz.ntmps109
  go_wp2; go_ret
  exact ⟨zS, zD⟩
 ·have c3b0 : decide ((a1.size : Int) ≤ (a0.size : Int)) = false := decide_eq_false c3; have c3b1 : decide (a1.size ≤ a0.size) = false := decide_eq_false (fun h => c3 (Int.ofNat_le.mpr h)); clear c3; obtain rfl := Option.some.inj H
  go_enter Tryz.func109, Tryz.ntmps109
  go_wp2; go_ret
  exact ⟨zS, zD⟩
def strings_HasPrefix.f (a0 : ByteArray) (a1 : ByteArray) : Option (Bool) := (stringslite_HasPrefix.f a0 a1).bind fun t131 => (some t131)
set_option maxHeartbeats 8000000 in
set_option maxRecDepth 100000 in
theorem strings_HasPrefix.calls (a0 : ByteArray) (a1 : ByteArray) (r : Bool) (w : World) (hG : GG w) (h : strings_HasPrefix.f a0 a1 = some r) :
  Calls Tryz.prog 102 #[.string a0, .string a1] w fun e w' => e = .returned (.bool r) ∧ Drawn0 w w' := by
 have H : ((stringslite_HasPrefix.f a0 a1).bind fun t131 => (some t131)) = some r := h; clear h; replace H := zO H; obtain ⟨t131, A3, H⟩ := H; obtain rfl := Option.some.inj H
 go_enter Tryz.func102, Tryz.ntmps102
 go_wp2_with (first | ((with_reducible refine gate_callee (f := 109) rfl ?_); refine zq 7 Tryz.func109 #[.string a0, .string a1] (stringslite_HasPrefix.calls a0 a1 t131 _ zG2 A3.out) (fun nd => ?_)))
 go_ret; exact ⟨zS, zD⟩
def escape_Value.f (k : Nat) (a0 : ByteArray) : Option (ByteArray × Int) := (escape_Clean.f k a0 false).bind fun t132 => (if t132 = 0 then ((strings_HasPrefix.f a0 (⟨#[34]⟩ : ByteArray)).bind fun t133 => (if t133 = true then (if (a0.size : Int) < 2 then (some ((⟨#[]⟩ : ByteArray), 7)) else (if 1 ≤ (a0.size : Int) then ((strings_IndexByte.f (a0.extract 1 a0.size) 34).bind fun t136 => (if t136 = (wrap64 ((a0.size : Int) - 2)) then (if 1 ≤ (wrap64 ((a0.size : Int) - 1)) then (if (wrap64 ((a0.size : Int) - 1)) ≤ (a0.size : Int) then ((escape_caret.f (a0.extract 1 ((wrap64 ((a0.size : Int) - 1)) : Int).toNat)).bind fun t137 => (some (t137, 0))) else (none)) else (none)) else (some ((⟨#[]⟩ : ByteArray), 7)))) else (none))) else ((strings_ContainsAny.f a0 (⟨#[34, 58, 59, 44]⟩ : ByteArray)).bind fun t134 => (if t134 = true then (some ((⟨#[]⟩ : ByteArray), 7)) else ((escape_caret.f a0).bind fun t135 => (some (t135, 0))))))) else (some ((⟨#[]⟩ : ByteArray), t132)))
theorem escape_Value.mono : ∀ a0 k, LeO (escape_Value.f k a0) (escape_Value.f (k + 1) a0) := by
 intro a0 k
 unfold escape_Value.f
 repeat' first
   | (with_reducible first | exact escape_Clean.mono _ _ _ | exact LeO.refl _ | exact LeO.none _ | refine LeO.ite ?_ ?_ | refine LeO.bind ?_ (fun _ => ?_)) | exact escape_Clean.mono _ _ _ | exact LeO.none _ | refine LeO.ite ?_ ?_ | refine LeO.bind ?_ (fun _ => ?_)
set_option maxHeartbeats 8000000 in
set_option maxRecDepth 100000 in
theorem escape_Value.calls (k : Nat) (a0 : ByteArray) (r1 : ByteArray) (r2 : Int) (w : World) (hG : GG w) (h : escape_Value.f k a0 = some (r1, r2)) :
  Calls Tryz.prog 93 #[.string a0] w fun e w' => e = .returned (.tuple #[.string r1, .int .i64 r2]) ∧ Below w.heap.size w w' := by
 have HB := Aside0.mk (Below.refl w.heap.size w)
 have H : ((escape_Clean.f k a0 false).bind fun t132 => (if t132 = 0 then ((strings_HasPrefix.f a0 (⟨#[34]⟩ : ByteArray)).bind fun t133 => (if t133 = true then (if (a0.size : Int) < 2 then (some ((⟨#[]⟩ : ByteArray), 7)) else (if 1 ≤ (a0.size : Int) then ((strings_IndexByte.f (a0.extract 1 a0.size) 34).bind fun t136 => (if t136 = (wrap64 ((a0.size : Int) - 2)) then (if 1 ≤ (wrap64 ((a0.size : Int) - 1)) then (if (wrap64 ((a0.size : Int) - 1)) ≤ (a0.size : Int) then ((escape_caret.f (a0.extract 1 ((wrap64 ((a0.size : Int) - 1)) : Int).toNat)).bind fun t137 => (some (t137, 0))) else (none)) else (none)) else (some ((⟨#[]⟩ : ByteArray), 7)))) else (none))) else ((strings_ContainsAny.f a0 (⟨#[34, 58, 59, 44]⟩ : ByteArray)).bind fun t134 => (if t134 = true then (some ((⟨#[]⟩ : ByteArray), 7)) else ((escape_caret.f a0).bind fun t135 => (some (t135, 0))))))) else (some ((⟨#[]⟩ : ByteArray), t132)))) = some (r1, r2) := h
 clear h; replace H := zO H; obtain ⟨t132, A2, H⟩ := H; replace H := zIe H; rcases H with ⟨-, c3b0, c3b1, H⟩ | ⟨c3, c3b0, c3b1, H⟩
 ·replace H := zO H; obtain ⟨t133, A4, H⟩ := H; replace H := zIb H; rcases H with ⟨rfl, H⟩ | ⟨rfl, H⟩
  ·replace H := zId H; rcases H with ⟨c6, c6b0, H⟩ | ⟨c6, c6b0, H⟩
   ·have c6b1 : decide (a0.size < 2) = true := decide_eq_true (by omega); clear c6; simp only [Option.some.injEq, Prod.mk.injEq] at H; obtain ⟨rfl, rfl⟩ := H
    go_enter Tryz.func93, Tryz.ntmps93
    go_wp2_with (first | ((with_reducible refine gate_callee (f := 55) rfl ?_); refine zqb 6 Tryz.func55 #[.string a0, .bool false] (escape_Clean.calls k a0 false t132 _ zG A2.out) (fun w7 hb => ?_); replace HB := zw hb; (try clear hb)) | ((with_reducible refine gate_callee (f := 102) rfl ?_); refine zq 11 Tryz.func102 #[.string a0, .string (⟨#[34]⟩ : ByteArray)] (strings_HasPrefix.calls a0 (⟨#[34]⟩ : ByteArray) true _ zG A4.out) (fun nd => ?_)))
    go_ret2; exact ⟨zE, zB⟩
   ·have c6b1 : decide (a0.size < 2) = false := decide_eq_false (by omega); clear c6; replace H := zJ H; obtain ⟨c8, H⟩ := H; have c8b0 := eq_true c8; have c8b1 : decide (1 ≤ (a0.size : Int)) = true := decide_eq_true c8; clear c8; replace H := zO H; obtain ⟨t136, A9, H⟩ := H; replace H := zIe H; rcases H with ⟨-, c10b0, c10b1, H⟩ | ⟨c10, c10b0, c10b1, H⟩
    ·replace H := zJ H; obtain ⟨c11, H⟩ := H; have c11b0 := eq_true c11; have c11b1 : decide (1 ≤ (wrap64 ((a0.size : Int) - 1))) = true := decide_eq_true c11; clear c11; replace H := zJ H; obtain ⟨c12, H⟩ := H; have c12b0 := eq_true c12; have c12b1 : decide ((wrap64 ((a0.size : Int) - 1)) ≤ (a0.size : Int)) = true := decide_eq_true c12; clear c12; replace H := zO H; obtain ⟨t137, A13, H⟩ := H; simp only [Option.some.injEq, Prod.mk.injEq] at H; obtain ⟨rfl, rfl⟩ := H
     go_enter Tryz.func93, Tryz.ntmps93
     go_wp2_with (first | ((with_reducible refine gate_callee (f := 55) rfl ?_); refine zqb 6 Tryz.func55 #[.string a0, .bool false] (escape_Clean.calls k a0 false t132 _ zG A2.out) (fun w14 hb => ?_); replace HB := zw hb; (try clear hb)) | ((with_reducible refine gate_callee (f := 102) rfl ?_); refine zq 11 Tryz.func102 #[.string a0, .string (⟨#[34]⟩ : ByteArray)] (strings_HasPrefix.calls a0 (⟨#[34]⟩ : ByteArray) true _ zG A4.out) (fun nd => ?_)) | (go_at_call 90; (with_reducible refine (strings_IndexByte.calls (a0.extract 1 a0.size) 34 t136 _ zG A9.out).mono ?_); rintro e w' ⟨rfl, ⟨nd, rfl⟩⟩) | ((with_reducible refine gate_callee (f := 103) rfl ?_); refine goesL_ (some 34) rfl rfl Tryz.func103 (by kernel_rfl) rfl #[.string (a0.extract 1 ((wrap64 ((a0.size : Int) - 1)) : Int).toNat)] rfl zA ?_; (with_reducible refine (escape_caret.calls (a0.extract 1 ((wrap64 ((a0.size : Int) - 1)) : Int).toNat) t137 _ zG A13.out).mono ?_); rintro e w15 ⟨rfl, hb⟩; refine ⟨_, rfl, ?_⟩; replace HB := zw hb; clear hb))
     go_ret2; exact ⟨zE, zB⟩
    ·simp only [Option.some.injEq, Prod.mk.injEq] at H; obtain ⟨rfl, rfl⟩ := H
     go_enter Tryz.func93, Tryz.ntmps93
     go_wp2_with (first | ((with_reducible refine gate_callee (f := 55) rfl ?_); refine zqb 6 Tryz.func55 #[.string a0, .bool false] (escape_Clean.calls k a0 false t132 _ zG A2.out) (fun w16 hb => ?_); replace HB := zw hb; (try clear hb)) | ((with_reducible refine gate_callee (f := 102) rfl ?_); refine zq 11 Tryz.func102 #[.string a0, .string (⟨#[34]⟩ : ByteArray)] (strings_HasPrefix.calls a0 (⟨#[34]⟩ : ByteArray) true _ zG A4.out) (fun nd => ?_)) | (go_at_call 90; (with_reducible refine (strings_IndexByte.calls (a0.extract 1 a0.size) 34 t136 _ zG A9.out).mono ?_); rintro e w' ⟨rfl, ⟨nd, rfl⟩⟩))
     go_ret2; exact ⟨zE, zB⟩
  ·replace H := zO H; obtain ⟨t134, A17, H⟩ := H; replace H := zIb H; rcases H with ⟨rfl, H⟩ | ⟨rfl, H⟩
   ·simp only [Option.some.injEq, Prod.mk.injEq] at H; obtain ⟨rfl, rfl⟩ := H
    go_enter Tryz.func93, Tryz.ntmps93
    go_wp2_with (first | ((with_reducible refine gate_callee (f := 55) rfl ?_); refine zqb 6 Tryz.func55 #[.string a0, .bool false] (escape_Clean.calls k a0 false t132 _ zG A2.out) (fun w19 hb => ?_); replace HB := zw hb; (try clear hb)) | ((with_reducible refine gate_callee (f := 102) rfl ?_); refine zq 11 Tryz.func102 #[.string a0, .string (⟨#[34]⟩ : ByteArray)] (strings_HasPrefix.calls a0 (⟨#[34]⟩ : ByteArray) false _ zG A4.out) (fun nd => ?_)) | ((with_reducible refine gate_callee (f := 38) rfl ?_); refine zqb 14 Tryz.func38 #[.string a0, .string (⟨#[34, 58, 59, 44]⟩ : ByteArray)] (strings_ContainsAny.calls a0 (⟨#[34, 58, 59, 44]⟩ : ByteArray) true _ zG A17.out) (fun w20 hb => ?_); replace HB := zw hb; (try clear hb)))
    go_ret2; exact ⟨zE, zB⟩
   ·replace H := zO H; obtain ⟨t135, A21, H⟩ := H; simp only [Option.some.injEq, Prod.mk.injEq] at H; obtain ⟨rfl, rfl⟩ := H
    go_enter Tryz.func93, Tryz.ntmps93
    go_wp2_with (first | ((with_reducible refine gate_callee (f := 55) rfl ?_); refine zqb 6 Tryz.func55 #[.string a0, .bool false] (escape_Clean.calls k a0 false t132 _ zG A2.out) (fun w22 hb => ?_); replace HB := zw hb; (try clear hb)) | ((with_reducible refine gate_callee (f := 102) rfl ?_); refine zq 11 Tryz.func102 #[.string a0, .string (⟨#[34]⟩ : ByteArray)] (strings_HasPrefix.calls a0 (⟨#[34]⟩ : ByteArray) false _ zG A4.out) (fun nd => ?_)) | ((with_reducible refine gate_callee (f := 38) rfl ?_); refine zqb 14 Tryz.func38 #[.string a0, .string (⟨#[34, 58, 59, 44]⟩ : ByteArray)] (strings_ContainsAny.calls a0 (⟨#[34, 58, 59, 44]⟩ : ByteArray) false _ zG A17.out) (fun w23 hb => ?_); replace HB := zw hb; (try clear hb)) | ((with_reducible refine gate_callee (f := 103) rfl ?_); refine zqb 16 Tryz.func103 #[.string a0] (escape_caret.calls a0 t135 _ zG A21.out) (fun w24 hb => ?_); replace HB := zw hb; (try clear hb)))
    go_ret2; exact ⟨zE, zB⟩
 ·simp only [Option.some.injEq, Prod.mk.injEq] at H; obtain ⟨rfl, rfl⟩ := H
  go_enter Tryz.func93, Tryz.ntmps93
  go_wp2_with (first | ((with_reducible refine gate_callee (f := 55) rfl ?_); refine zqb 6 Tryz.func55 #[.string a0, .bool false] (escape_Clean.calls k a0 false t132 _ zG A2.out) (fun w25 hb => ?_); replace HB := zw hb; (try clear hb)))
  go_ret2; exact ⟨zE, zB⟩
end Go.Proofs.YtdojmdbaiddkgaaGreatDoor.Print
end
section
namespace Go.Proofs.YtdojmdbaiddkgaaGreatDoor.Print
open Go.RowKit Go.Proofs.YtdojmdbaiddkgaaGreatDoorW.PrintWords Go.Proofs.YtdojmdbaiddkgaaGreatDoorW.PrintLast Go.Proofs.YtdojmdbaiddkgaaGreatDoorW.PrintMore
set_option linter.unusedVariables false
set_option linter.unusedSimpArgs false
def line_Name.l0 : Nat → ByteArray → Int → Int → Option (Bool)
 | 0, _, _, _ => none
 | k + 1, x0, x5, x6 => if x6 < x5 then (if 0 ≤ x6 then (if x6 < (x0.size : Int) then ((line_sign.f (bt x0 x6) true).bind fun t169 => (if t169 = true then (line_Name.l0 k x0 x5 (wrap64 (x6 + 1))) else (some false))) else (none)) else (none)) else (if (x0.size : Int) ≥ 1 then (some (decide ((x0.size : Int) ≤ 60))) else (some false))
def line_Name.f (k : Nat) (a0 : ByteArray) : Option (Bool) := line_Name.l0 k a0 (a0.size : Int) 0
theorem line_Name.mono_l : ∀ k, (∀ y0 y1 y2, LeO (line_Name.l0 k y0 y1 y2) (line_Name.l0 (k + 1) y0 y1 y2))
 | 0 => fun _ _ _ r h => by simp [line_Name.l0] at h
 | k + 1 => by
  have ih0 := line_Name.mono_l k
  ·intro y0 y1 y2
   unfold line_Name.l0
   repeat' first
   | (with_reducible first | exact ih0 _ _ _ | exact LeO.refl _ | exact LeO.none _ | refine LeO.ite ?_ ?_ | refine LeO.bind ?_ (fun _ => ?_)) | exact ih0 _ _ _ | exact LeO.none _ | refine LeO.ite ?_ ?_ | refine LeO.bind ?_ (fun _ => ?_)
theorem line_Name.mono : ∀ a0 k, LeO (line_Name.f k a0) (line_Name.f (k + 1) a0) := by
 intro a0 k
 have ih0 := line_Name.mono_l k
 unfold line_Name.f
 repeat' first
   | (with_reducible first | exact ih0 _ _ _ | exact LeO.refl _ | exact LeO.none _ | refine LeO.ite ?_ ?_ | refine LeO.bind ?_ (fun _ => ?_)) | exact ih0 _ _ _ | exact LeO.none _ | refine LeO.ite ?_ ?_ | refine LeO.bind ?_ (fun _ => ?_)
set_option maxHeartbeats 8000000 in
set_option maxRecDepth 100000 in
theorem line_Name.calls (k : Nat) (a0 : ByteArray) (r : Bool) (w : World) (hG : GG w) (h : line_Name.f k a0 = some r) :
  Calls Tryz.prog 44 #[.string a0] w fun e w' => e = .returned (.bool r) ∧ Drawn0 w w' := by
 have H : (line_Name.l0 k a0 (a0.size : Int) 0) = some r := h; clear h; have H' := Aside0.mk H; clear H
 go_enter Tryz.func44, Tryz.ntmps44
 go_wp2
 go_loopg [6] k (fun kq v6 w' => ∃ (x6_1 : Int), v6 = .int .i64 x6_1 ∧ Aside0 (line_Name.l0 kq a0 (a0.size : Int) x6_1 = some r) ∧ Aside0 (kq ≤ k) ∧ Drawn0 w w')
 case atStart => exact ⟨(0), zS, H', ⟨Nat.le_refl _⟩, zD⟩
 case round =>
  clear H'; obtain ⟨x6_1, rfl, HA, HK1, ⟨m1, rfl⟩⟩ := hrel
  cases gk with
  | zero => exact absurd HA.out (by simp [line_Name.l0])
  | succ k1 =>
   have H := HA.out; clear HA; simp only [line_Name.l0] at H; replace H := zId H; rcases H with ⟨-, c2b0, H⟩ | ⟨-, c2b0, H⟩
   ·replace H := zJJ H; obtain ⟨c3b0, c4b0, H⟩ := H; replace H := zO H; obtain ⟨t169, A6, H⟩ := H; replace H := zIb H; rcases H with ⟨rfl, H⟩ | ⟨rfl, H⟩
    ·have H' := Aside0.mk H; clear H; obtain ⟨p5, q5, hx5⟩ := zbt a0 x6_1
     go_wp2_with (first | ((with_reducible refine gate_callee (f := 70) rfl ?_); refine zq 12 Tryz.func70 #[.int .u8 (bt a0 x6_1), .bool true] (line_sign.calls (bt a0 x6_1) true true _ zG2 A6.out) (fun nd => ?_)))
     go_roundg k1
     case measure => have := HK1.out; omega
     case rel => exact ⟨(wrap64 (x6_1 + 1)), zS, H', ⟨by have := HK1.out; omega⟩, zD⟩
    ·obtain rfl := Option.some.inj H; obtain ⟨p5, q5, hx5⟩ := zbt a0 x6_1
     go_wp2_with (first | ((with_reducible refine gate_callee (f := 70) rfl ?_); refine zq 12 Tryz.func70 #[.int .u8 (bt a0 x6_1), .bool true] (line_sign.calls (bt a0 x6_1) true false _ zG2 A6.out) (fun nd => ?_)))
     go_ret; exact ⟨zS, zD⟩
   ·replace H := zI H; rcases H with ⟨c8, H⟩ | ⟨c8, H⟩
    ·have c8b0 : decide (1 ≤ (a0.size : Int)) = true := decide_eq_true c8; have c8b1 : decide (1 ≤ a0.size) = true := decide_eq_true (by omega); clear c8; obtain rfl := Option.some.inj H; go_wp2; go_ret; exact ⟨zS, zD⟩
    ·have c8b0 : decide (1 ≤ (a0.size : Int)) = false := decide_eq_false c8; have c8b1 : decide (1 ≤ a0.size) = false := decide_eq_false (by omega); clear c8; obtain rfl := Option.some.inj H; go_wp2; go_ret; exact ⟨zS, zD⟩
def tree_bound.f (a0 : ByteArray) : Option (Bool) := if a0.toList = ([66, 69, 71, 73, 78] : List UInt8) then (some true) else (some (a0.toList == ([69, 78, 68] : List UInt8)))
set_option maxHeartbeats 8000000 in
set_option maxRecDepth 100000 in
theorem tree_bound.calls (a0 : ByteArray) (r : Bool) (w : World) (hG : GG w) (h : tree_bound.f a0 = some r) :
  Calls Tryz.prog 46 #[.string a0] w fun e w' => e = .returned (.bool r) ∧ Drawn0 w w' := by
 have H : (if a0.toList = ([66, 69, 71, 73, 78] : List UInt8) then (some true) else (some (a0.toList == ([69, 78, 68] : List UInt8)))) = some r := h; clear h; replace H := zIe H; rcases H with ⟨-, c2b0, c2b1, H⟩ | ⟨c2, c2b0, c2b1, H⟩
 ·obtain rfl := Option.some.inj H
  go_enter Tryz.func46, Tryz.ntmps46
  go_wp2; go_ret
  exact ⟨zS, zD⟩
 ·obtain rfl := Option.some.inj H
  go_enter Tryz.func46, Tryz.ntmps46
  go_wp2; go_ret
  exact ⟨zS, zD⟩
end Go.Proofs.YtdojmdbaiddkgaaGreatDoor.Print
end
section
namespace Go.Proofs.YtdojmdbaiddkgaaGreatDoor.Print
open Go.RowKit Go.Proofs.YtdojmdbaiddkgaaGreatDoorW.PrintWords Go.Proofs.YtdojmdbaiddkgaaGreatDoorW.PrintLast Go.Proofs.YtdojmdbaiddkgaaGreatDoorW.PrintMore
set_option linter.unusedVariables false
set_option linter.unusedSimpArgs false
mutual
def line_Param_formed.j0 : Nat → Bool → ByteArray → List ByteArray → Option (Bool)
 | 0, _, _, _ => none
 | k + 1, x20, x233000, x233001 => if x20 = true then (some false) else (line_Param_formed.l0 k x233001 (x233001.length : Int) 0)
def line_Param_formed.l0 : Nat → List ByteArray → Int → Int → Option (Bool)
 | 0, _, _, _ => none
 | k + 1, x22, x23, x24 => if x24 < x23 then (if 0 ≤ x24 then (if x24 < (x22.length : Int) then ((escape_Clean.f k (rdOf ByteArray.empty x22 x24) true).bind fun t235 => (if t235 = 0 then (line_Param_formed.l0 k x22 x23 (wrap64 (x24 + 1))) else (some false))) else (none)) else (none)) else (some true)
end
def line_Param_formed.f (k : Nat) (a0_0 : ByteArray) (l0_1 : List ByteArray) : Option (Bool) := (line_Name.f k a0_0).bind fun t233 => (if t233 = true then (if (l0_1.length : Int) < 1 then (line_Param_formed.j0 k true a0_0 l0_1) else (line_Param_formed.j0 k (decide ((l0_1.length : Int) > 60)) a0_0 l0_1)) else (line_Param_formed.j0 k true a0_0 l0_1))
set_option maxHeartbeats 8000000 in
set_option maxRecDepth 100000 in
theorem line_Param_formed.calls (k : Nat) (a0_0 : ByteArray) (A0_1 : Option Addr) (c0_1 : Nat) (l0_1 : List ByteArray) (r : Bool) (w : World) (hG : GG w) (hr0_1 : Kd.C Kd.string w A0_1 l0_1.length l0_1) (hc0_1 : l0_1.length ≤ c0_1) (h : line_Param_formed.f k a0_0 l0_1 = some r) :
  Calls Tryz.prog 71 #[.agg #[.string a0_0, .slice A0_1 l0_1.length c0_1]] w fun e w' => e = .returned (.bool r) ∧ Below w.heap.size w w' := by
 have hu77 := Tryz.underlying77; have HR0_1 := Aside0.mk hr0_1; have HC0_1 := Aside0.mk hc0_1; clear hr0_1 hc0_1; have HB := Aside0.mk (Below.refl w.heap.size w); have H : ((line_Name.f k a0_0).bind fun t233 => (if t233 = true then (if (l0_1.length : Int) < 1 then (line_Param_formed.j0 k true a0_0 l0_1) else (line_Param_formed.j0 k (decide ((l0_1.length : Int) > 60)) a0_0 l0_1)) else (line_Param_formed.j0 k true a0_0 l0_1))) = some r := h; clear h; have HC2 := Aside0.mk H; clear H
 go_enter Tryz.func71, Tryz.ntmps71
 go_upto_region 1 with (first | ((with_reducible refine gate_dst (N := 1) rfl ?_); (try (refine gate_guard (by rfl) ?_; dsimp only)); refine zbox (N := 1) #[.string a0_0, .slice A0_1 l0_1.length c0_1] 77 (fun gb232 hg w3 hbox hb => ?_); replace BK232 := Aside0.mk hbox; replace GE232 := zg w hg; replace HB := zw hb; clear hb hbox hg))
 (try simp only [Act.put, List.setIfInBounds_toArray, List.set_cons_zero, List.set_cons_succ])
 go_cut [20] (fun v20 wc => ∃ (kq : Nat) (x20_1 : Bool), v20 = .bool x20_1 ∧ Aside0 (line_Param_formed.j0 kq x20_1 a0_0 l0_1 = some r) ∧ Aside0 (kq ≤ k) ∧ Aside0 (wc.heap[gb232]? = some (.cells #[.string a0_0, (.slice A0_1 l0_1.length c0_1)] 77 (0, 0))) ∧ Aside0 (Below w.heap.size w wc))
 case first =>
  have H := HC2.out; clear HC2; replace H := zO H; obtain ⟨t233, A4, H⟩ := H; replace H := zIb H; rcases H with ⟨rfl, H⟩ | ⟨rfl, H⟩
  ·replace H := zId H; rcases H with ⟨c6, c6b0, H⟩ | ⟨c6, c6b0, H⟩
   ·have c6b1 : decide (l0_1.length < 1) = true := decide_eq_true (by omega); clear c6
    (first | rw [c6b0] | (simp only [i64_w, i32_w]; rw [c6b0]) | skip)
    have H' := Aside0.mk H; clear H; obtain ⟨hcz7_0, hcz7_1, hfz7_0, hfz7_1⟩ := zk2 BK232
    go_wp2_with (first | ((with_reducible refine gate_callee (f := 44) rfl ?_); refine zq 7 Tryz.func44 #[.string a0_0] (line_Name.calls k a0_0 true _ zG A4.out) (fun nd => ?_)))
    go_meet
    case rel => exact ⟨_, (true), zS, H', ⟨by first | omega | exact Nat.le_refl _⟩, ⟨blk_below BK232.out zX⟩, ⟨zB⟩⟩
   ·have c6b1 : decide (l0_1.length < 1) = false := decide_eq_false (by omega); clear c6
    (first | rw [c6b0] | (simp only [i64_w, i32_w]; rw [c6b0]) | skip)
    have H' := Aside0.mk H; clear H; obtain ⟨hcz8_0, hcz8_1, hfz8_0, hfz8_1⟩ := zk2 BK232
    go_wp2_with (first | ((with_reducible refine gate_callee (f := 44) rfl ?_); refine zq 7 Tryz.func44 #[.string a0_0] (line_Name.calls k a0_0 true _ zG A4.out) (fun nd => ?_)))
    go_meet
    case rel => exact ⟨_, (decide ((l0_1.length : Int) > 60)), zS, H', ⟨by first | omega | exact Nat.le_refl _⟩, ⟨blk_below BK232.out zX⟩, ⟨zB⟩⟩
  ·have H' := Aside0.mk H; clear H; obtain ⟨hcz9_0, hcz9_1, hfz9_0, hfz9_1⟩ := zk2 BK232
   go_wp2_with (first | ((with_reducible refine gate_callee (f := 44) rfl ?_); refine zq 7 Tryz.func44 #[.string a0_0] (line_Name.calls k a0_0 false _ zG A4.out) (fun nd => ?_)))
   go_meet
   case rel => exact ⟨_, (true), zS, H', ⟨by first | omega | exact Nat.le_refl _⟩, ⟨blk_below BK232.out zX⟩, ⟨zB⟩⟩
 case rest =>
  clear HC2; obtain ⟨kq, x20_1, rfl, HA, HJ1, BK232, HB⟩ := hcut
  cases kq with
  | zero => exact absurd HA.out (by simp [line_Param_formed.j0])
  | succ kj1 =>
   have H := HA.out; clear HA; simp only [line_Param_formed.j0] at H; replace H := zIb H; rcases H with ⟨rfl, H⟩ | ⟨rfl, H⟩
   ·obtain rfl := Option.some.inj H; go_wp2; go_ret; exact ⟨zE, zB⟩
   ·have H' := Aside0.mk H; clear H; obtain ⟨hcz11_0, hcz11_1, hfz11_0, hfz11_1⟩ := zk2 BK232; go_wp2
    go_loopg [24] kj1 (fun kq v24 w' => ∃ (x24_2 : Int), v24 = .int .i64 x24_2 ∧ Aside0 (line_Param_formed.l0 kq l0_1 (l0_1.length : Int) x24_2 = some r) ∧ Aside0 (kq ≤ kj1) ∧ Aside0 (w'.heap[gb232]? = some (.cells #[.string a0_0, (.slice A0_1 l0_1.length c0_1)] 77 (0, 0))) ∧ Aside0 (Below w.heap.size w w'))
    case atStart => exact ⟨(0), zS, H', ⟨Nat.le_refl _⟩, ⟨blk_below BK232.out zX⟩, ⟨zB⟩⟩
    case round =>
     clear H'; clear hcz11_0 hcz11_1 hfz11_0 hfz11_1; obtain ⟨x24_2, rfl, HA, HK2, BK232, HB⟩ := hrel
     cases gk with
     | zero => exact absurd HA.out (by simp [line_Param_formed.l0])
     | succ k2 =>
      have H := HA.out; clear HA; simp only [line_Param_formed.l0] at H; replace H := zId H; rcases H with ⟨-, c12b0, H⟩ | ⟨-, c12b0, H⟩
      ·replace H := zJJ H; obtain ⟨c13b0, c14b0, H⟩ := H; replace H := zO H; obtain ⟨t235, A15, H⟩ := H; replace H := zIe H; rcases H with ⟨-, c16b0, c16b1, H⟩ | ⟨c16, c16b0, c16b1, H⟩
       ·have H' := Aside0.mk H; clear H; have p234 := zQ (0 ≤ (x24_2 : Int)); have q234 := zQ (x24_2 < (l0_1.length : Int)); obtain ⟨ad234, e234, hx234_0⟩ := Kd.at_string HR0_1.out x24_2 p234 q234
        cases e234
        replace hx234_0 := zx HB hx234_0; replace p234 := eq_true p234; replace q234 := eq_true q234
        go_wp2_with (first | ((with_reducible refine gate_callee (f := 55) rfl ?_); refine zqb 29 Tryz.func55 #[.string (rdOf ByteArray.empty l0_1 x24_2), .bool true] (escape_Clean.calls k2 (rdOf ByteArray.empty l0_1 x24_2) true t235 _ zG A15.out) (fun w17 hb => ?_); replace BK232 := zb BK232 hb; replace HB := zw hb; (try clear hb)))
        go_roundg k2
        case measure => have := HJ1.out; have := HK2.out; omega
        case rel => exact ⟨(wrap64 (x24_2 + 1)), zS, H', ⟨by have := HJ1.out; have := HK2.out; omega⟩, ⟨blk_below BK232.out zX⟩, ⟨zB⟩⟩
       ·obtain rfl := Option.some.inj H; have p234 := zQ (0 ≤ (x24_2 : Int)); have q234 := zQ (x24_2 < (l0_1.length : Int)); obtain ⟨ad234, e234, hx234_0⟩ := Kd.at_string HR0_1.out x24_2 p234 q234
        cases e234
        replace hx234_0 := zx HB hx234_0; replace p234 := eq_true p234; replace q234 := eq_true q234
        go_wp2_with (first | ((with_reducible refine gate_callee (f := 55) rfl ?_); refine zqb 29 Tryz.func55 #[.string (rdOf ByteArray.empty l0_1 x24_2), .bool true] (escape_Clean.calls k2 (rdOf ByteArray.empty l0_1 x24_2) true t235 _ zG A15.out) (fun w18 hb => ?_); replace BK232 := zb BK232 hb; replace HB := zw hb; (try clear hb)))
        go_ret; exact ⟨zE, zB⟩
      ·obtain rfl := Option.some.inj H; go_wp2; go_ret; exact ⟨zE, zB⟩
end Go.Proofs.YtdojmdbaiddkgaaGreatDoor.Print
end
section
set_option linter.unusedVariables false
set_option linter.unusedSimpArgs false
namespace Go.Proofs.YtdojmdbaiddkgaaGreatDoor.Print
open Go.RowKit Go.Proofs.YtdojmdbaiddkgaaGreatDoorW.PrintWords Go.Proofs.YtdojmdbaiddkgaaGreatDoorW.PrintLast Go.Proofs.YtdojmdbaiddkgaaGreatDoorW.PrintMore
theorem addr_plain {w : World} {ad : Addr} {v : Value} (h : w.cell? (ad.add 0) = some v) : ∃ b o, ad = ⟨b, o, none⟩ := by
  obtain ⟨b, o, sp⟩ := ad
  cases sp with
  | none => exact ⟨b, o, rfl⟩
  | some z =>
    exfalso
    unfold Addr.add at h
    rw [if_pos rfl] at h
    simp only [World.cell?] at h; split at h <;> simp at h
theorem add_plainO (b o j : Nat) : (⟨b, o, none⟩ : Addr).add j = ⟨b, o + j, none⟩ := by
  unfold Addr.add
  split
  · rename_i h8; subst h8; rfl
  · rfl
theorem ba_toList {a b : ByteArray} (h : a.toList = b.toList) : a = b := by
  have : a.data.toList = b.data.toList := by rw [← Go.ByteArray.toList_eq a, ← Go.ByteArray.toList_eq b]; exact h
  cases a; cases b; simp at this; rw [this]
theorem cellLt0 {w : World} {a : Addr} {v : Value} (h : w.cell? a = some v) : a.block < w.heap.size := by
  rcases Nat.lt_or_ge a.block w.heap.size with h9 | h9
  · exact h9
  · simp [World.cell?, Array.getElem?_eq_none h9] at h
/-- A row of strings, by its block. -/
theorem strs_row {w : World} {A : Option Addr} {xs : List ByteArray} (h : Kd.C Kd.string w A xs.length xs) (hn : xs ≠ []) : ∃ b o, A = some ⟨b, o, none⟩ ∧ ∀ j, j < xs.length → w.cell? ⟨b, o + j, none⟩ = some (.string (xs.getD j ByteArray.empty)) := by
  have hl : 0 < xs.length := by cases xs with
    | nil => exact absurd rfl hn
    | cons _ _ => simp
  obtain ⟨_, _, hcell⟩ := Kd.reads_of_C (d := ByteArray.empty) (h1 := fun _ => rfl) h
  obtain ⟨ad, hA, hcl⟩ := hcell hl
  obtain ⟨b, o, rfl⟩ := addr_plain (hcl 0 hl)
  exact ⟨b, o, hA, fun j hj => by rw [← add_plainO]; exact hcl j hj⟩
theorem strs_eq (A0 : Option Addr) (c0 : Nat) (l0 : List ByteArray) (A1 : Option Addr) (c1 : Nat) (l1 : List ByteArray) (w : World) (h0 : Kd.C Kd.string w A0 l0.length l0) (h1 : Kd.C Kd.string w A1 l1.length l1) :
    Calls Tryz.prog 62 #[.slice A0 l0.length c0, .slice A1 l1.length c1] w fun e w' => e = .returned (.bool (decide (l0 = l1))) ∧ Below w.heap.size w w' := by
  by_cases hl : l0.length = l1.length
  · cases l0 with
    | nil =>
      have : l1 = [] := by cases l1 with
        | nil => rfl
        | cons _ _ => simp at hl
      subst this
      exact (Tryz.slices_Equal_string_empty A0 A1 c0 0 c1 w (by omega)).mono fun e w' ⟨he, hw⟩ => ⟨he, hw ▸ Below.refl _ _⟩
    | cons x t =>
      have hn1 : l1 ≠ [] := by rintro rfl; simp at hl
      obtain ⟨b0, o0, rfl, hc0⟩ := strs_row h0 (by simp)
      obtain ⟨b1, o1, rfl, hc1⟩ := strs_row h1 hn1
      refine (Tryz.slices_Equal_string b0 o0 _ c0 b1 o1 _ c1 (x :: t) l1 w (Nat.le_refl _) (Nat.le_refl _) h0.2.1 h1.2.1 hc0 hc1).mono ?_
      rintro e w' ⟨he, q, rfl⟩
      rw [List.take_length, List.take_length] at he
      exact ⟨he, pw_below_drewN (Below.refl _ _) q⟩
  · refine (Tryz.slices_Equal_string_lens A0 A1 _ c0 _ c1 w hl).mono ?_
    rintro e w' ⟨he, rfl⟩
    exact ⟨by rw [he, decide_eq_false (fun h => hl (by rw [h]))], Below.refl _ _⟩
/-- A parameter of a row, by its block. -/
theorem par_at {w : World} {A : Option Addr} {l : List S77} (h : Kd.C k77 w A l.length l) (i : Nat) (hi : i < l.length) : ∃ b o A1 c1, A = some ⟨b, o, none⟩ ∧ w.cell? ⟨b, o + i * 2, none⟩ = some (.string (l.getD i z77).f0) ∧ w.cell? ⟨b, o + i * 2 + 1, none⟩ = some (.slice A1 (l.getD i z77).f1.length c1) ∧ (l.getD i z77).f1.length ≤ c1 ∧ Kd.C Kd.string w A1 (l.getD i z77).f1.length (l.getD i z77).f1 := by
  obtain ⟨ad, A1, c1, hA, h0, h1, hc, hC⟩ := at_T77 h i (by omega) (by omega)
  obtain ⟨ad', _, _, hA', h0', _⟩ := at_T77 h 0 (by omega) (by omega)
  obtain rfl : ad = ad' := by rw [hA] at hA'; exact Option.some.inj hA'
  obtain ⟨b, o, rfl⟩ := addr_plain (show w.cell? (ad.add 0) = _ from h0')
  refine ⟨b, o, A1, c1, hA, ?_, ?_, hc, hC⟩
  · rw [add_plainO] at h0; exact h0
  · rw [add_plainO] at h1; exact h1
def eqP (p q : S77) : Bool := decide (p.f0 = q.f0) && decide (p.f1 = q.f1)
theorem eqP_walk (p q : S77) (A0 : Option Addr) (c0 : Nat) (A1 : Option Addr) (c1 : Nat) (w : World) (h0 : Kd.C Kd.string w A0 p.f1.length p.f1) (h1 : Kd.C Kd.string w A1 q.f1.length q.f1) :
    Calls Tryz.prog 61 #[.agg #[.string p.f0, .slice A0 p.f1.length c0], .agg #[.string q.f0, .slice A1 q.f1.length c1]] w fun e w' => e = .returned (.bool (eqP p q)) ∧ Below w.heap.size w w' := by
  obtain ⟨n0, l0⟩ := p
  obtain ⟨n1, l1⟩ := q
  have H0 := Aside0.mk h0
  have H1 := Aside0.mk h1
  clear h0 h1
  dsimp only at H0 H1 ⊢
  by_cases hn : n0 = n1
  · subst hn
    have hb : (n0.toList == n0.toList) = true := beq_self_eq_true _
    have hP : eqP ⟨n0, l0⟩ ⟨n0, l1⟩ = decide (l0 = l1) := by unfold eqP; simp
    rw [hP]
    clear hP
    go_enter Tryz.func61, Tryz.ntmps61
    go_wp2_with fail
    go_at_call 62
    refine (strs_eq A0 c0 l0 A1 c1 l1 _ (Kd.C_below H0.out (below_alloc (below_alloc (Below.refl _ _) _) _)) (Kd.C_below H1.out (below_alloc (below_alloc (Below.refl _ _) _) _))).mono ?_
    rintro e w2 ⟨rfl, hB⟩
    have HB := Aside0.mk hB
    clear hB
    obtain ⟨b, hbd⟩ : ∃ b, b = decide (l0 = l1) := ⟨_, rfl⟩
    rw [← hbd]
    have HBD := Aside0.mk hbd
    clear hbd hb
    go_wp2_with fail
    go_ret
    exact ⟨by rw [← HBD.out]; rfl, (below_alloc (below_alloc (Below.refl _ _) _) _).trans (HB.out.mono (by simp; omega))⟩
  · have hb2 : ¬ n0.toList = n1.toList := fun h => hn (ba_toList h)
    have hb : (n0.toList == n1.toList) = false := by rw [beq_eq_false_iff_ne]; exact hb2
    have hP : eqP ⟨n0, l0⟩ ⟨n1, l1⟩ = false := by unfold eqP; rw [decide_eq_false hn]; rfl
    rw [hP]
    clear hP
    go_enter Tryz.func61, Tryz.ntmps61
    go_wp2_with fail
    go_ret
    exact ⟨rfl, below_alloc (below_alloc (Below.refl _ _) _) _⟩
def eqPs : List S77 → List S77 → Bool
  | [], [] => true
  | p :: s, q :: t => eqP p q && eqPs s t
  | _, _ => false
theorem eqPs_len : ∀ (a b : List S77), a.length ≠ b.length → eqPs a b = false
  | [], [], h => absurd rfl h
  | [], _ :: _, _ => rfl
  | _ :: _, [], _ => rfl
  | _ :: s, _ :: t, h => by
    unfold eqPs
    rw [eqPs_len s t (fun e => h (by simp [e])), Bool.and_false]
theorem eqPs_at (a b : List S77) (i : Nat) (ha : i < a.length) (hb : i < b.length) : eqPs (a.drop i) (b.drop i) = (eqP (a.getD i z77) (b.getD i z77) && eqPs (a.drop (i + 1)) (b.drop (i + 1))) := by
  rw [List.drop_eq_getElem_cons ha, List.drop_eq_getElem_cons hb, List.getD_eq_getElem?_getD, List.getD_eq_getElem?_getD, List.getElem?_eq_getElem ha, List.getElem?_eq_getElem hb]
  rfl
set_option maxHeartbeats 4000000 in
set_option maxRecDepth 100000 in
theorem eqPs_walk (A0 : Option Addr) (c0 : Nat) (l0 : List S77) (A1 : Option Addr) (c1 : Nat) (l1 : List S77) (w : World) (h0 : Kd.C k77 w A0 l0.length l0) (h1 : Kd.C k77 w A1 l1.length l1) :
    Calls Tryz.prog 60 #[.slice A0 l0.length c0, .slice A1 l1.length c1, .func (.func 61) #[] #[]] w fun e w' => e = .returned (.bool (eqPs l0 l1)) ∧ Below w.heap.size w w' := by
  have hm := h0.2.1
  have H0 := Aside0.mk h0
  have H1 := Aside0.mk h1
  clear h0 h1
  by_cases hl : l0.length = l1.length
  · obtain ⟨n, hn⟩ : ∃ n, n = l0.length := ⟨_, rfl⟩
    have hn1 : n = l1.length := by omega
    have HN := Aside0.mk hn
    have HN1 := Aside0.mk hn1
    rw [← hn] at hm ⊢
    rw [← hn1]
    clear hl hn hn1
    have hnot : ∀ (x : Bool) (w : World), (Op.unary .not (.bool x)).run Tryz.prog w = .ok (.bool (!x)) w := fun _ _ => rfl
    go_enter Tryz.func60, Tryz.ntmps60
    go_wp2_with fail
    go_loopg [7, 8, 9, 17] n (fun g v7 v8 v9 v17 wr => ∃ i : Nat, v17 = .int .i64 i ∧ i ≤ n ∧ Aside0 (n ≤ i + g) ∧ Aside0 (Below w.heap.size w wr) ∧ Aside0 (eqPs l0 l1 = eqPs (l0.drop i) (l1.drop i)))
    case atStart => exact ⟨0, rfl, by omega, ⟨by omega⟩, ⟨Below.refl _ _⟩, ⟨rfl⟩⟩
    case round =>
      obtain ⟨i, rfl, hi, HG, HB, HE⟩ := hrel
      by_cases hlt : i < n
      · cases gk with
        | zero => exfalso; have := HG.out; omega
        | succ g =>
        obtain ⟨b0, o0, A2, c2, e0, p0, p1, hc2, hC2⟩ := par_at (Kd.C_below H0.out HB.out) i (by have := HN.out; omega)
        obtain ⟨b1, o1, A3, c3, e1, q0, q1, hc3, hC3⟩ := par_at (Kd.C_below H1.out HB.out) i (by have := HN1.out; omega)
        subst e0 e1
        have hE := eqPs_at l0 l1 i (by have := HN.out; omega) (by have := HN1.out; omega)
        obtain ⟨p, hp⟩ : ∃ p, p = l0.getD i z77 := ⟨_, rfl⟩
        obtain ⟨q, hq⟩ : ∃ q, q = l1.getD i z77 := ⟨_, rfl⟩
        rw [← hp] at p0 p1 hc2 hC2 hE
        rw [← hq] at q0 q1 hc3 hC3 hE
        have HX := Aside0.mk (And.intro hC2 (And.intro hC3 hE))
        have hb0 := cellLt0 p0
        have hb1 := cellLt0 q0
        clear hC2 hC3 hc2 hc3 hp hq hE
        have HQ := eqP_walk p q A2 c2 A3 c3
        have HQQ := Aside0.mk HQ
        clear HQ
        obtain ⟨r, hr⟩ : ∃ r, r = eqP p q := ⟨_, rfl⟩
        rw [← hr] at HQQ HX
        clear hr
        go_wp2_with fail
        go_at_call 61
        refine (HQQ.out _ (Kd.C_below HX.out.1 (below_alloc (below_alloc (Below.refl _ _) _) _)) (Kd.C_below HX.out.2.1 (below_alloc (below_alloc (Below.refl _ _) _) _))).mono ?_
        rintro e w2 ⟨rfl, hB⟩
        have HB2 := Aside0.mk (HB.out.trans (((below_alloc (below_alloc (Below.refl _ _) _) _).trans (hB.mono (by simp; omega))).mono HB.out.size))
        clear hB
        cases r with
        | true =>
          go_wp2_with fail
          go_roundg g
          case measure => have := HG.out; omega
          case rel => exact ⟨i + 1, by first | rfl | (go_num; done), by omega, ⟨by have := HG.out; omega⟩, HB2, ⟨by rw [HE.out, HX.out.2.2, Bool.true_and]⟩⟩
        | false =>
          go_wp2_with fail
          go_ret
          exact ⟨by rw [HE.out, HX.out.2.2, Bool.false_and]; rfl, HB2.out⟩
      · have hin : i = n := by omega
        subst hin
        go_wp2_with fail
        go_ret
        refine ⟨?_, HB.out⟩
        rw [HE.out, List.drop_eq_nil_of_le (by have := HN.out; omega), List.drop_eq_nil_of_le (by have := HN1.out; omega)]
        rfl
  · have he := eqPs_len l0 l1 hl
    have HE := Aside0.mk he
    clear he
    have hl1 : decide ((l0.length : Int) = (l1.length : Int)) = false := decide_eq_false (by omega)
    have hl2 : ¬ (l0.length : Int) = (l1.length : Int) := by omega
    go_enter Tryz.func60, Tryz.ntmps60
    go_wp2_with fail
    go_ret
    exact ⟨by rw [HE.out]; rfl, Below.refl _ _⟩
def eqL (a : ByteArray) (l : List S77) (v : ByteArray) (b : ByteArray) (m : List S77) (u : ByteArray) : Bool := decide (a = b) && decide (v = u) && eqPs l m
theorem beqS_no {a b : ByteArray} (h : ¬ a = b) : (a.toList == b.toList) = false := by rw [beq_eq_false_iff_ne]; exact fun e => h (ba_toList e)
def line_Equal.f (a0_0 : ByteArray) (l0_1 : List S77) (a0_2 : ByteArray) (a1_0 : ByteArray) (l1_1 : List S77) (a1_2 : ByteArray) : Option Bool := some (eqL a0_0 l0_1 a0_2 a1_0 l1_1 a1_2)
theorem line_Equal.calls (a0_0 : ByteArray) (A0_1 : Option Addr) (c0_1 : Nat) (l0_1 : List S77) (a0_2 : ByteArray) (a1_0 : ByteArray) (A1_1 : Option Addr) (c1_1 : Nat) (l1_1 : List S77) (a1_2 : ByteArray) (r : Bool) (w : World) (hG : GG w) (hr0_1 : Kd.C k77 w A0_1 l0_1.length l0_1) (hc0_1 : l0_1.length ≤ c0_1) (hr1_1 : Kd.C k77 w A1_1 l1_1.length l1_1) (hc1_1 : l1_1.length ≤ c1_1) (h : line_Equal.f a0_0 l0_1 a0_2 a1_0 l1_1 a1_2 = some r) :
    Calls Tryz.prog 33 #[.agg #[.string a0_0, .slice A0_1 l0_1.length c0_1, .string a0_2], .agg #[.string a1_0, .slice A1_1 l1_1.length c1_1, .string a1_2]] w fun e w' => e = .returned (.bool r) ∧ Below w.heap.size w w' := by
  obtain rfl := Option.some.inj h
  have H0 := Aside0.mk hr0_1
  have H1 := Aside0.mk hr1_1
  clear h hG hr0_1 hr1_1 hc0_1 hc1_1
  by_cases hn : a0_0 = a1_0
  · subst hn
    by_cases hv : a0_2 = a1_2
    · subst hv
      have hP : eqL a0_0 l0_1 a0_2 a0_0 l1_1 a0_2 = eqPs l0_1 l1_1 := by unfold eqL; simp
      rw [hP]
      clear hP
      have hb : (a0_0.toList == a0_0.toList) = true := beq_self_eq_true _
      have hb2 : (a0_2.toList == a0_2.toList) = true := beq_self_eq_true _
      go_enter Tryz.func33, Tryz.ntmps33
      go_wp2_with fail
      go_at_call 60
      refine (eqPs_walk A0_1 c0_1 l0_1 A1_1 c1_1 l1_1 _ (Kd.C_below H0.out (below_alloc (below_alloc (Below.refl _ _) _) _)) (Kd.C_below H1.out (below_alloc (below_alloc (Below.refl _ _) _) _))).mono ?_
      rintro e w2 ⟨rfl, hB⟩
      have HB := Aside0.mk hB
      clear hB
      obtain ⟨b, hbd⟩ : ∃ b, b = eqPs l0_1 l1_1 := ⟨_, rfl⟩
      rw [← hbd]
      have HBD := Aside0.mk hbd
      clear hbd hb hb2
      go_wp2_with fail
      go_ret
      exact ⟨by rw [← HBD.out]; rfl, (below_alloc (below_alloc (Below.refl _ _) _) _).trans (HB.out.mono (by simp; omega))⟩
    · have hP : eqL a0_0 l0_1 a0_2 a0_0 l1_1 a1_2 = false := by unfold eqL; rw [decide_eq_false hv]; simp
      rw [hP]
      clear hP
      have hb : (a0_0.toList == a0_0.toList) = true := beq_self_eq_true _
      have hb2 := beqS_no hv
      have hb3 : ¬ a0_2.toList = a1_2.toList := fun e => hv (ba_toList e)
      go_enter Tryz.func33, Tryz.ntmps33
      go_wp2_with fail
      go_ret
      exact ⟨rfl, below_alloc (below_alloc (Below.refl _ _) _) _⟩
  · have hP : eqL a0_0 l0_1 a0_2 a1_0 l1_1 a1_2 = false := by unfold eqL; rw [decide_eq_false hn]; rfl
    rw [hP]
    clear hP
    have hb2 := beqS_no hn
    have hb3 : ¬ a0_0.toList = a1_0.toList := fun e => hn (ba_toList e)
    go_enter Tryz.func33, Tryz.ntmps33
    go_wp2_with fail
    go_ret
    exact ⟨rfl, below_alloc (below_alloc (Below.refl _ _) _) _⟩
end Go.Proofs.YtdojmdbaiddkgaaGreatDoor.Print
end
section
set_option linter.unusedVariables false
set_option linter.unusedSimpArgs false
namespace Go.Proofs.YtdojmdbaiddkgaaGreatDoor.Print
open Go.RowKit Go.Proofs.YtdojmdbaiddkgaaGreatDoorW.PrintWords Go.Proofs.YtdojmdbaiddkgaaGreatDoorW.PrintLast Go.Proofs.YtdojmdbaiddkgaaGreatDoorW.PrintMore
def hasN (a : ByteArray) (p : S77) : Bool := decide (p.f0 = a)
/-- Where a parameter of a name stands, from a place on; -1: there is none. -/
def idxN (a : ByteArray) : List S77 → Nat → Int
  | [], _ => -1
  | p :: t, i => if hasN a p = true then (i : Int) else idxN a t (i + 1)
theorem beqS_yes (a : ByteArray) : (a.toList == a.toList) = true := beq_self_eq_true _
theorem at1_walk (p : S77) (a : ByteArray) (A : Option Addr) (c : Nat) (x : Addr) (w : World) (hx : w.cell? x = some (.string a)) :
    Calls Tryz.prog 88 #[.agg #[.string p.f0, .slice A p.f1.length c], .pointer (some x)] w fun e w' => e = .returned (.bool (hasN a p)) ∧ Below w.heap.size w w' := by
  have hxl := cellLt0 hx
  by_cases h : p.f0 = a
  · have hr : hasN a p = true := decide_eq_true h
    have hb : (p.f0.toList == a.toList) = true := by rw [h]; exact beqS_yes a
    rw [hr]
    clear hr h
    go_enter Tryz.func88, Tryz.ntmps88
    go_wp2_with fail
    go_ret
    exact ⟨rfl, below_alloc (Below.refl _ _) _⟩
  · have hr : hasN a p = false := decide_eq_false h
    have hb := beqS_no h
    rw [hr]
    clear hr h
    go_enter Tryz.func88, Tryz.ntmps88
    go_wp2_with fail
    go_ret
    exact ⟨rfl, below_alloc (Below.refl _ _) _⟩
set_option maxHeartbeats 4000000 in
set_option maxRecDepth 100000 in
theorem idxF_walk (A0 : Option Addr) (c0 : Nat) (l0 : List S77) (a : ByteArray) (x : Addr) (w : World) (h0 : Kd.C k77 w A0 l0.length l0) (hx : w.cell? x = some (.string a)) :
    Calls Tryz.prog 87 #[.slice A0 l0.length c0, .func (.func 88) #[] #[.pointer (some x)]] w fun e w' => e = .returned (.int .i64 (idxN a l0 0)) ∧ Below w.heap.size w w' := by
  have hm := h0.2.1
  have H0 := Aside0.mk h0
  have HX := Aside0.mk hx
  have hxl := cellLt0 hx
  clear h0 hx
  obtain ⟨n, hn⟩ : ∃ n, n = l0.length := ⟨_, rfl⟩
  have HN := Aside0.mk hn
  rw [← hn] at hm ⊢
  clear hn
  go_enter Tryz.func87, Tryz.ntmps87
  go_wp2_with fail
  go_loopg [5, 8] n (fun g v5 v8 wr => ∃ i : Nat, v8 = .int .i64 i ∧ i ≤ n ∧ Aside0 (n ≤ i + g) ∧ Aside0 (Below w.heap.size w wr) ∧ Aside0 (idxN a l0 0 = idxN a (l0.drop i) i))
  case atStart => exact ⟨0, rfl, by omega, ⟨by omega⟩, ⟨Below.refl _ _⟩, ⟨rfl⟩⟩
  case round =>
    obtain ⟨i, rfl, hi, HG, HB, HE⟩ := hrel
    by_cases hlt : i < n
    · cases gk with
      | zero => exfalso; have := HG.out; omega
      | succ g =>
      obtain ⟨b0, o0, A2, c2, e0, p0, p1, hc2, hC2⟩ := par_at (Kd.C_below H0.out HB.out) i (by have := HN.out; omega)
      subst e0
      have hd : l0.drop i = l0.getD i z77 :: l0.drop (i + 1) := by
        rw [List.drop_eq_getElem_cons (by have := HN.out; omega), List.getD_eq_getElem?_getD, List.getElem?_eq_getElem (by have := HN.out; omega)]; rfl
      obtain ⟨p, hp⟩ : ∃ p, p = l0.getD i z77 := ⟨_, rfl⟩
      rw [← hp] at p0 p1 hd
      have HD := Aside0.mk hd
      clear hC2 hc2 hp hd
      have HQQ := Aside0.mk (at1_walk p a A2 c2 x)
      obtain ⟨r, hr⟩ : ∃ r, r = hasN a p := ⟨_, rfl⟩
      have HR := Aside0.mk hr
      rw [← hr] at HQQ
      clear hr
      go_wp2_with fail
      go_at_call 88
      refine (HQQ.out _ ((HB.out.cell hxl).trans HX.out)).mono ?_
      rintro e w2 ⟨rfl, hB⟩
      have HB2 := Aside0.mk (HB.out.trans (hB.mono HB.out.size))
      clear hB
      cases r with
      | true =>
        go_wp2_with fail
        go_ret
        exact ⟨by rw [HE.out, HD.out, idxN, if_pos HR.out.symm]; rfl, HB2.out⟩
      | false =>
        go_wp2_with fail
        go_roundg g
        case measure => have := HG.out; omega
        case rel => exact ⟨i + 1, by first | rfl | (go_num; done), by omega, ⟨by have := HG.out; omega⟩, HB2, ⟨by rw [HE.out, HD.out, idxN, if_neg (by rw [← HR.out]; simp)]⟩⟩
    · have hin : i = n := by omega
      subst hin
      go_wp2_with fail
      go_ret
      refine ⟨?_, HB.out⟩
      rw [HE.out, List.drop_eq_nil_of_le (by have := HN.out; omega)]
      rfl
def line_at.f (l0 : List S77) (a1 : ByteArray) : Option Int := some (idxN a1 l0 0)
theorem line_at.calls (A0 : Option Addr) (c0 : Nat) (l0 : List S77) (a1 : ByteArray) (r : Int) (w : World) (hG : GG w) (hr0 : Kd.C k77 w A0 l0.length l0) (hc0 : l0.length ≤ c0) (h : line_at.f l0 a1 = some r) :
    Calls Tryz.prog 72 #[.slice A0 l0.length c0, .string a1] w fun e w' => e = .returned (.int .i64 r) ∧ Below w.heap.size w w' := by
  obtain rfl := Option.some.inj h
  have H0 := Aside0.mk hr0
  clear h hG hr0 hc0
  obtain ⟨n, hn⟩ : ∃ n, n = l0.length := ⟨_, rfl⟩
  have HN := Aside0.mk hn
  rw [← hn]
  obtain ⟨r, hr⟩ : ∃ r, r = idxN a1 l0 0 := ⟨_, rfl⟩
  have HR := Aside0.mk hr
  rw [← hr]
  clear hn hr
  have hmf : ∀ (fn : Fn) (first cap : Array Value) (w : World), (Instr.makeFunc fn first cap).run Tryz.prog w = .ok (.func fn first cap) w := fun _ _ _ _ => rfl
  go_enter Tryz.func72, Tryz.ntmps72
  go_wp2_with fail
  go_at_call 87
  rw [HN.out]
  refine (idxF_walk A0 c0 l0 a1 ⟨w.heap.size, 0, none⟩ _ (Kd.C_below H0.out (below_alloc (Below.refl _ _) _)) (by rw [World.cell?_alloc_at _ _ _ _ rfl]; rfl)).mono ?_
  rintro e w2 ⟨rfl, hB⟩
  have HB := Aside0.mk hB
  clear hB
  rw [← HR.out, ← HN.out]
  go_wp2_with fail
  go_ret
  exact ⟨rfl, (below_alloc (Below.refl _ _) _).trans (HB.out.mono (by simp))⟩
end Go.Proofs.YtdojmdbaiddkgaaGreatDoor.Print
end
section
namespace Go.Proofs.YtdojmdbaiddkgaaGreatDoor.Print
open Go.RowKit Go.Proofs.YtdojmdbaiddkgaaGreatDoorW.PrintWords Go.Proofs.YtdojmdbaiddkgaaGreatDoorW.PrintLast Go.Proofs.YtdojmdbaiddkgaaGreatDoorW.PrintMore
set_option linter.unusedVariables false
set_option linter.unusedSimpArgs false
mutual
def line_Formed.j0 : Nat → Bool → ByteArray → List (S77) → ByteArray → Option (Bool)
 | 0, _, _, _, _ => none
 | k + 1, x20, x237000, x237001, x237002 => if x20 = true then (some false) else (line_Formed.l0 k x237001 (x237001.length : Int) 0 x237000 x237001 x237002)
def line_Formed.l0 : Nat → List (S77) → Int → Int → ByteArray → List (S77) → ByteArray → Option (Bool)
 | 0, _, _, _, _, _, _ => none
 | k + 1, x22, x23, x24, x237000, x237001, x237002 => if x24 < x23 then (if 0 ≤ x24 then (if x24 < (x22.length : Int) then ((line_Param_formed.f k ((rd_T77 x22 x24).f0) ((rd_T77 x22 x24).f1)).bind fun t241 => (if t241 = true then (if x24 ≤ (x237001.length : Int) then ((line_at.f (x237001.take (x24 : Int).toNat) ((rd_T77 x22 x24).f0)).bind fun t246 => (if t246 ≥ 0 then (some false) else (line_Formed.l0 k x22 x23 (wrap64 (x24 + 1)) x237000 x237001 x237002))) else (none)) else (some false))) else (none)) else (none)) else (some true)
end
def line_Formed.f (k : Nat) (a0_0 : ByteArray) (l0_1 : List (S77)) (a0_2 : ByteArray) : Option (Bool) := (line_Name.f k a0_0).bind fun t237 => (if t237 = true then (if (l0_1.length : Int) > 60 then (line_Formed.j0 k true a0_0 l0_1 a0_2) else ((escape_Clean.f k a0_2 false).bind fun t238 => (line_Formed.j0 k (t238 != 0) a0_0 l0_1 a0_2))) else (line_Formed.j0 k true a0_0 l0_1 a0_2))
def line_Formed.T6 : Bool × List (List Nat × List Nat) := (true, [([], []), ([0], [0]), ([1], [1]), ([2, 1], [2]), ([3], [3]), ([4, 3], [3, 4]), ([3], [3]), ([5, 6, 3], [3, 5, 6]), ([3], [3]), ([8, 3], [3, 8]), ([7, 9, 3, 3], [3, 7, 9]), ([10, 3], [3, 10]), ([3, 11], [3, 11])])
def line_Formed.B6 : List Nat := [0, 1, 3, 7, 15, 31, 15, 127, 15, 271, 1023, 2047, 4095]
theorem line_Formed.tab6 : rtab .any (opsOf Tryz.f45 6) = line_Formed.T6 := by kernel_rfl
theorem line_Formed.bits6 : waitsOk line_Formed.T6.2 line_Formed.B6 = true := by kernel_rfl
set_option maxHeartbeats 8000000 in
set_option maxRecDepth 100000 in
theorem line_Formed.calls (k : Nat) (a0_0 : ByteArray) (A0_1 : Option Addr) (c0_1 : Nat) (l0_1 : List (S77)) (a0_2 : ByteArray) (r : Bool) (w : World) (hG : GG w) (hr0_1 : Kd.C k77 w A0_1 l0_1.length l0_1) (hc0_1 : l0_1.length ≤ c0_1) (h : line_Formed.f k a0_0 l0_1 a0_2 = some r) :
  Calls Tryz.prog 45 #[.agg #[.string a0_0, .slice A0_1 l0_1.length c0_1, .string a0_2]] w fun e w' => e = .returned (.bool r) ∧ Below w.heap.size w w' := by
 have hu49 := Tryz.underlying49; have hu77 := Tryz.underlying77; have HR0_1 := Aside0.mk hr0_1; have HC0_1 := Aside0.mk hc0_1; clear hr0_1 hc0_1; have HB := Aside0.mk (Below.refl w.heap.size w); have H : ((line_Name.f k a0_0).bind fun t237 => (if t237 = true then (if (l0_1.length : Int) > 60 then (line_Formed.j0 k true a0_0 l0_1 a0_2) else ((escape_Clean.f k a0_2 false).bind fun t238 => (line_Formed.j0 k (t238 != 0) a0_0 l0_1 a0_2))) else (line_Formed.j0 k true a0_0 l0_1 a0_2))) = some r := h; clear h; have HC2 := Aside0.mk H; clear H
 go_enter Tryz.func45, Tryz.ntmps45
 go_upto_region 1 with (first | ((with_reducible refine gate_dst (N := 1) rfl ?_); (try (refine gate_guard (by rfl) ?_; dsimp only)); refine zbox (N := 1) #[.string a0_0, .slice A0_1 l0_1.length c0_1, .string a0_2] 49 (fun gb236 hg w3 hbox hb => ?_); replace BK236 := Aside0.mk hbox; replace GE236 := zg w hg; replace HB := zw hb; clear hb hbox hg))
 (try simp only [Act.put, List.setIfInBounds_toArray, List.set_cons_zero, List.set_cons_succ])
 go_cut [20] (fun v20 wc => ∃ (kq : Nat) (x20_1 : Bool), v20 = .bool x20_1 ∧ Aside0 (line_Formed.j0 kq x20_1 a0_0 l0_1 a0_2 = some r) ∧ Aside0 (kq ≤ k) ∧ Aside0 (wc.heap[gb236]? = some (.cells #[.string a0_0, (.slice A0_1 l0_1.length c0_1), .string a0_2] 49 (0, 0))) ∧ Aside0 (Below w.heap.size w wc))
 case first =>
  have H := HC2.out; clear HC2; replace H := zO H; obtain ⟨t237, A4, H⟩ := H; replace H := zIb H; rcases H with ⟨rfl, H⟩ | ⟨rfl, H⟩
  ·replace H := zI H; rcases H with ⟨c6, H⟩ | ⟨c6, H⟩
   ·have c6b0 : decide (60 < (l0_1.length : Int)) = true := decide_eq_true c6; have c6b1 : decide (60 < l0_1.length) = true := decide_eq_true (by omega); clear c6
    (first | rw [c6b0] | (simp only [i64_w, i32_w]; rw [c6b0]) | skip)
    have H' := Aside0.mk H; clear H; obtain ⟨hcz7_0, hcz7_1, hcz7_2, hfz7_0, hfz7_1, hfz7_2⟩ := zk3 BK236
    go_wp2_with (first | ((with_reducible refine gate_callee (f := 44) rfl ?_); refine zq 7 Tryz.func44 #[.string a0_0] (line_Name.calls k a0_0 true _ zG A4.out) (fun nd => ?_)))
    go_meet
    case rel => exact ⟨_, (true), zS, H', ⟨by first | omega | exact Nat.le_refl _⟩, ⟨blk_below BK236.out zX⟩, ⟨zB⟩⟩
   ·have c6b0 : decide (60 < (l0_1.length : Int)) = false := decide_eq_false c6; have c6b1 : decide (60 < l0_1.length) = false := decide_eq_false (by omega); clear c6
    (first | rw [c6b0] | (simp only [i64_w, i32_w]; rw [c6b0]) | skip)
    replace H := zO H; obtain ⟨t238, A8, H⟩ := H; have H' := Aside0.mk H; clear H; obtain ⟨hcz9_0, hcz9_1, hcz9_2, hfz9_0, hfz9_1, hfz9_2⟩ := zk3 BK236
    go_wp2_with (first | ((with_reducible refine gate_callee (f := 44) rfl ?_); refine zq 7 Tryz.func44 #[.string a0_0] (line_Name.calls k a0_0 true _ zG A4.out) (fun nd => ?_)) | (go_at_call 55; (with_reducible refine (escape_Clean.calls k a0_2 false t238 _ zG A8.out).mono ?_); rintro e w10 ⟨rfl, hb⟩; replace BK236 := zb BK236 hb; replace HB := zw hb; clear hb))
    go_meet
    case rel => exact ⟨_, ((t238 != 0)), zS, H', ⟨by first | omega | exact Nat.le_refl _⟩, ⟨blk_below BK236.out zX⟩, ⟨zB⟩⟩
  ·have H' := Aside0.mk H; clear H; obtain ⟨hcz11_0, hcz11_1, hcz11_2, hfz11_0, hfz11_1, hfz11_2⟩ := zk3 BK236
   go_wp2_with (first | ((with_reducible refine gate_callee (f := 44) rfl ?_); refine zq 7 Tryz.func44 #[.string a0_0] (line_Name.calls k a0_0 false _ zG A4.out) (fun nd => ?_)))
   go_meet
   case rel => exact ⟨_, (true), zS, H', ⟨by first | omega | exact Nat.le_refl _⟩, ⟨blk_below BK236.out zX⟩, ⟨zB⟩⟩
 case rest =>
  clear HC2; obtain ⟨kq, x20_1, rfl, HA, HJ1, BK236, HB⟩ := hcut
  cases kq with
  | zero => exact absurd HA.out (by simp [line_Formed.j0])
  | succ kj1 =>
   have H := HA.out; clear HA; simp only [line_Formed.j0] at H; replace H := zIb H; rcases H with ⟨rfl, H⟩ | ⟨rfl, H⟩
   ·obtain rfl := Option.some.inj H; go_wp2; go_ret; exact ⟨zE, zB⟩
   ·have H' := Aside0.mk H; clear H; obtain ⟨hcz13_0, hcz13_1, hcz13_2, hfz13_0, hfz13_1, hfz13_2⟩ := zk3 BK236; go_wp2
    go_loopg [24] kj1 (fun kq v24 w' => ∃ (x24_2 : Int), v24 = .int .i64 x24_2 ∧ Aside0 (line_Formed.l0 kq l0_1 (l0_1.length : Int) x24_2 a0_0 l0_1 a0_2 = some r) ∧ Aside0 (kq ≤ kj1) ∧ Aside0 (w'.heap[gb236]? = some (.cells #[.string a0_0, (.slice A0_1 l0_1.length c0_1), .string a0_2] 49 (0, 0))) ∧ Aside0 (Below w.heap.size w w'))
    case atStart => exact ⟨(0), zS, H', ⟨Nat.le_refl _⟩, ⟨blk_below BK236.out zX⟩, ⟨zB⟩⟩
    case round =>
     clear H'; clear hcz13_0 hcz13_1 hcz13_2 hfz13_0 hfz13_1 hfz13_2; obtain ⟨x24_2, rfl, HA, HK2, BK236, HB⟩ := hrel
     cases gk with
     | zero => exact absurd HA.out (by simp [line_Formed.l0])
     | succ k2 =>
      have H := HA.out; clear HA; simp only [line_Formed.l0] at H; replace H := zId H; rcases H with ⟨-, c14b0, H⟩ | ⟨-, c14b0, H⟩
      ·replace H := zJJ H; obtain ⟨c15b0, c16b0, H⟩ := H; replace H := zO H; obtain ⟨t241, A17, H⟩ := H; replace H := zIb H; rcases H with ⟨rfl, H⟩ | ⟨rfl, H⟩
       ·have c19b0 := eq_true (of_decide_eq_true (by first | (with_reducible assumption) | assumption) : 0 ≤ x24_2); replace H := zJ H; obtain ⟨c20, H⟩ := H; have c20b0 := eq_true c20; have c20b1 : decide (x24_2 ≤ (l0_1.length : Int)) = true := decide_eq_true c20; clear c20; obtain ⟨y242, hy242⟩ : ∃ y_ : List (S77), y_ = (l0_1.take (x24_2 : Int).toNat) := ⟨_, rfl⟩; replace H : ((line_at.f y242 ((rd_T77 l0_1 x24_2).f0)).bind fun t246 => (if t246 ≥ 0 then (some false) else (line_Formed.l0 k2 l0_1 (l0_1.length : Int) (wrap64 (x24_2 + 1)) a0_0 l0_1 a0_2))) = some r := by first | (rw [hy242]; with_reducible exact H) | (have H2_ := (Option.bind_some _ _).symm.trans H; rw [hy242]; with_reducible exact H2_) | (have H2_ := (Option.bind_some _ _).symm.trans H; with_reducible exact H2_) | with_reducible exact H | (rw [hy242]; exact H) | exact H
        have Ny242 := Aside0.mk hy242; clear hy242; replace H := zO H; obtain ⟨t246, A21, H⟩ := H; replace H := zI H; rcases H with ⟨c22, H⟩ | ⟨c22, H⟩
        ·have c22b0 : decide (0 ≤ t246) = true := decide_eq_true c22; clear c22; obtain rfl := Option.some.inj H; have p239 := zQ (0 ≤ (x24_2 : Int)); have q239 := zQ (x24_2 < (l0_1.length : Int)); obtain ⟨ad239, A239_1, c239_1, e239, hx239_0, hx239_1, hl239_1, hi239_1⟩ := at_T77 HR0_1.out x24_2 p239 q239
         cases e239
         replace hx239_0 := zx HB hx239_0; replace hx239_1 := zx HB hx239_1; have HR239_1 := Aside0.mk hi239_1; have HC239_1 := Aside0.mk hl239_1; clear hi239_1 hl239_1; replace p239 := eq_true p239; replace q239 := eq_true q239
         try go_wp2_with (first | ((with_reducible refine gate_dst (N := 4) rfl ?_); (try (refine gate_guard (by rfl) ?_; dsimp only)); refine zbox (N := 4) #[.string (⟨#[]⟩ : ByteArray), .slice none 0 0] 77 (fun gb240 hg w23 hbox hb => ?_); replace BK240 := Aside0.mk hbox; replace GE240 := zg w hg; replace HB := zw hb; replace NB236_240 := zn BK236 hg; replace NB240_236 := zm BK236 hg; replace BK236 := zb BK236 hb; clear hb hbox hg; have hnb24 := NB240_236.out; have hnc24 := NB236_240.out; obtain ⟨hcz25_0, hcz25_1, hfz25_0, hfz25_1⟩ := zk2 BK240))
         have n0_ : Aside0 (((w23.setCell ⟨gb240, 0, none⟩ (.string ((rd_T77 l0_1 x24_2).f0))).setCell ⟨gb240, 1, none⟩ (.slice A239_1 ((rd_T77 l0_1 x24_2).f1).length c239_1)).heap[gb236]? = some (.cells #[.string a0_0, .slice (some ad239) l0_1.length c0_1, .string a0_2] 49 (0, 0))) := ⟨by (with_reducible repeat (first | refine blk_drewN ?_ _ | refine blk_drew ?_ | refine blk_alloc ?_ _)); refine blk_far ?_ NB236_240.out _; (with_reducible repeat (first | refine blk_drewN ?_ _ | refine blk_drew ?_ | refine blk_alloc ?_ _)); refine blk_far ?_ NB236_240.out _; (with_reducible repeat (first | refine blk_drewN ?_ _ | refine blk_drew ?_ | refine blk_alloc ?_ _)); exact BK236.out⟩
         have n1_ : Aside0 (((w23.setCell ⟨gb240, 0, none⟩ (.string ((rd_T77 l0_1 x24_2).f0))).setCell ⟨gb240, 1, none⟩ (.slice A239_1 ((rd_T77 l0_1 x24_2).f1).length c239_1)).heap[gb240]? = some (.cells #[.string ((rd_T77 l0_1 x24_2).f0), .slice A239_1 ((rd_T77 l0_1 x24_2).f1).length c239_1] 77 (0, 0))) := ⟨by (with_reducible repeat (first | refine blk_drewN ?_ _ | refine blk_drew ?_ | refine blk_alloc ?_ _)); refine blk_put (cs := #[.string ((rd_T77 l0_1 x24_2).f0), .slice none 0 0]) ?_ 1 _ rfl; (with_reducible repeat (first | refine blk_drewN ?_ _ | refine blk_drew ?_ | refine blk_alloc ?_ _)); refine blk_put (cs := #[.string (⟨#[]⟩ : ByteArray), .slice none 0 0]) ?_ 0 _ rfl; (with_reducible repeat (first | refine blk_drewN ?_ _ | refine blk_drew ?_ | refine blk_alloc ?_ _)); exact BK240.out⟩
         have n2_ : Aside0 (Below w.heap.size w ((w23.setCell ⟨gb240, 0, none⟩ (.string ((rd_T77 l0_1 x24_2).f0))).setCell ⟨gb240, 1, none⟩ (.slice A239_1 ((rd_T77 l0_1 x24_2).f1).length c239_1))) := ⟨zB⟩; (try clear BK236); (try clear BK240); (try clear HB); generalize ((w23.setCell ⟨gb240, 0, none⟩ (.string ((rd_T77 l0_1 x24_2).f0))).setCell ⟨gb240, 1, none⟩ (.slice A239_1 ((rd_T77 l0_1 x24_2).f1).length c239_1)) = w26 at n0_ n1_ n2_ ⊢; have BK236 := n0_; have BK240 := n1_; have HB := n2_; clear n0_ n1_ n2_; replace BK236 := Aside0.mk (blk_drew BK236.out); replace BK240 := Aside0.mk (blk_drew BK240.out); replace HB := Aside0.mk (below_drew1 HB.out)
         refine start_ (n := 13) (S := fun w' => w'.cell? ⟨gb240, 0, none⟩ = some (.string ((rd_T77 l0_1 x24_2).f0)) ∧ w'.cell? ⟨gb240, 1, none⟩ = some (.slice A239_1 ((rd_T77 l0_1 x24_2).f1).length c239_1) ∧ w'.cell? ⟨gb236, 0, none⟩ = some (.string a0_0) ∧ w'.cell? ⟨gb236, 1, none⟩ = some (.slice (some ad239) l0_1.length c0_1) ∧ w'.cell? ⟨gb236, 2, none⟩ = some (.string a0_2)) (ds := []) (bs 13 0) (by kernel_rfl) rfl rfl ⟨(blk_cell BK240.out 0).trans rfl, (blk_cell BK240.out 1).trans rfl, (blk_cell BK236.out 0).trans rfl, (blk_cell BK236.out 1).trans rfl, (blk_cell BK236.out 2).trans rfl⟩ (fun hHeld => ?_); refine with_tabW line_Formed.tab6 line_Formed.bits6 (fun HT_ HW_ => ?_); generalize w26.drew = w27 at BK236 BK240 HB hHeld ⊢; refine zt 0 29 (bs 13 1) ?_; refine one_ (i := 1) (N := some 30) (bs 13 3) rfl rfl (one_of HT_.out (by kernel_rfl)) (by decide) (fun K hK => ?_)
         refine goes_ Tryz.func71 (by kernel_rfl) rfl #[.agg #[.string ((rd_T77 l0_1 x24_2).f0), .slice A239_1 ((rd_T77 l0_1 x24_2).f1).length c239_1]] (by rfl) rfl rfl zA ?_
         with_reducible refine (line_Param_formed.calls k2 ((rd_T77 l0_1 x24_2).f0) _ _ ((rd_T77 l0_1 x24_2).f1) true _ zG ?side1 ?side2 A17.out).mono ?_
         (case side1 => exact Kd.C_below (Kd.C_below HR239_1.out HB.out) zX)
         (case side2 => exact HC239_1.out)
         rintro e w28 ⟨rfl, hb⟩; refine ⟨_, rfl, ?_⟩; replace BK236 := zb BK236 hb; replace BK240 := zb BK240 hb; replace HB := zw hb; clear hb; (try clear hb2); (try clear hk); (try clear hi); have q29 := zQ ((x24_2 : Int) ≤ ((l0_1.length : Int) : Int)); obtain ⟨i029, hi029, _, hsz29, _⟩ := info_parts info77; have hroom29 : l0_1.length ≤ c0_1 := HC0_1.out; have hC29 : Kd.C k77 _ (some ad239) l0_1.length l0_1 := HR0_1.out; have hcut29 := cut_to (P := Tryz.prog) 47 77 .i64 Tryz.underlying47 hi029 (some ad239) l0_1.length c0_1 x24_2 (of_decide_eq_true (by first | (with_reducible assumption) | assumption)) q29 hroom29; have hr29 := Kd.C_take (m := (x24_2 : Int).toNat) hC29 (by omega)
         have hy29 : y242.length = (x24_2 : Int).toNat := (by rw [Ny242.out, List.length_take]; omega); rw [← Ny242.out] at hr29; rw [← hy29] at hcut29; have HR245 := Aside0.mk hr29; have HC245 := Aside0.mk (show y242.length ≤ c0_1 from by omega); clear hr29 hC29 hroom29 hi029 hsz29; have KY29 := Aside0.mk hy29; clear hy29; replace q29 := eq_true q29; refine hK.out _ _ ⟨(blk_cell BK240.out 0).trans rfl, (blk_cell BK240.out 1).trans rfl, (blk_cell BK236.out 0).trans rfl, (blk_cell BK236.out 1).trans rfl, (blk_cell BK236.out 2).trans rfl⟩ (fun hHeld => ?_); clear hK K; refine zr ?_; refine zp 2 31 (bs 13 7) ?_; refine zp 3 32 (bs 13 15) ?_; refine zp 4 33 (bs 13 31) ?_; refine zp 6 35 (bs 13 95) ?_; refine zp 8 37 (bs 13 351) ?_; refine zt 5 34 (bs 13 383) ?_; refine zp 7 36 (bs 13 511) ?_; refine zt 9 38 (bs 13 1023) ?_
         refine one_ (i := 10) (N := some 39) (bs 13 2047) rfl rfl (one_of HT_.out (by kernel_rfl)) (by decide) (fun K hK => ?_); refine goes_ Tryz.func72 (by kernel_rfl) rfl #[.slice (some ad239) y242.length c0_1, .string ((rd_T77 l0_1 x24_2).f0)] (by rfl) rfl rfl zA ?_
         with_reducible refine (line_at.calls _ _ y242 ((rd_T77 l0_1 x24_2).f0) t246 _ zG ?side1 ?side2 A21.out).mono ?_
         (case side1 => exact Kd.C_below (Kd.C_below HR245.out HB.out) zX)
         (case side2 => exact HC245.out)
         rintro e w30 ⟨rfl, hb⟩; refine ⟨_, rfl, ?_⟩; replace BK236 := zb BK236 hb; replace BK240 := zb BK240 hb; replace HB := zw hb; clear hb; (try clear hb2); (try clear hk); (try clear hi); refine hK.out _ _ ⟨(blk_cell BK240.out 0).trans rfl, (blk_cell BK240.out 1).trans rfl, (blk_cell BK236.out 0).trans rfl, (blk_cell BK236.out 1).trans rfl, (blk_cell BK236.out 2).trans rfl⟩ (fun hHeld => ?_); clear hK K; refine zr ?_; refine zp 11 40 (bs 13 4095) ?_; refine zp 12 41 (bs 13 8191) ?_; refine done_ (done_of HT_.out (by kernel_rfl)) ?_
         try go_wp2
         go_ret; exact ⟨zE, zB⟩
        ·have c22b0 : decide (0 ≤ t246) = false := decide_eq_false c22; clear c22; have H' := Aside0.mk H; clear H; have p239 := zQ (0 ≤ (x24_2 : Int)); have q239 := zQ (x24_2 < (l0_1.length : Int)); obtain ⟨ad239, A239_1, c239_1, e239, hx239_0, hx239_1, hl239_1, hi239_1⟩ := at_T77 HR0_1.out x24_2 p239 q239
         cases e239
         replace hx239_0 := zx HB hx239_0; replace hx239_1 := zx HB hx239_1; have HR239_1 := Aside0.mk hi239_1; have HC239_1 := Aside0.mk hl239_1; clear hi239_1 hl239_1; replace p239 := eq_true p239; replace q239 := eq_true q239
         try go_wp2_with (first | ((with_reducible refine gate_dst (N := 4) rfl ?_); (try (refine gate_guard (by rfl) ?_; dsimp only)); refine zbox (N := 4) #[.string (⟨#[]⟩ : ByteArray), .slice none 0 0] 77 (fun gb240 hg w31 hbox hb => ?_); replace BK240 := Aside0.mk hbox; replace GE240 := zg w hg; replace HB := zw hb; replace NB236_240 := zn BK236 hg; replace NB240_236 := zm BK236 hg; replace BK236 := zb BK236 hb; clear hb hbox hg; have hnb32 := NB240_236.out; have hnc32 := NB236_240.out; obtain ⟨hcz33_0, hcz33_1, hfz33_0, hfz33_1⟩ := zk2 BK240))
         have n0_ : Aside0 (((w31.setCell ⟨gb240, 0, none⟩ (.string ((rd_T77 l0_1 x24_2).f0))).setCell ⟨gb240, 1, none⟩ (.slice A239_1 ((rd_T77 l0_1 x24_2).f1).length c239_1)).heap[gb236]? = some (.cells #[.string a0_0, .slice (some ad239) l0_1.length c0_1, .string a0_2] 49 (0, 0))) := ⟨by (with_reducible repeat (first | refine blk_drewN ?_ _ | refine blk_drew ?_ | refine blk_alloc ?_ _)); refine blk_far ?_ NB236_240.out _; (with_reducible repeat (first | refine blk_drewN ?_ _ | refine blk_drew ?_ | refine blk_alloc ?_ _)); refine blk_far ?_ NB236_240.out _; (with_reducible repeat (first | refine blk_drewN ?_ _ | refine blk_drew ?_ | refine blk_alloc ?_ _)); exact BK236.out⟩
         have n1_ : Aside0 (((w31.setCell ⟨gb240, 0, none⟩ (.string ((rd_T77 l0_1 x24_2).f0))).setCell ⟨gb240, 1, none⟩ (.slice A239_1 ((rd_T77 l0_1 x24_2).f1).length c239_1)).heap[gb240]? = some (.cells #[.string ((rd_T77 l0_1 x24_2).f0), .slice A239_1 ((rd_T77 l0_1 x24_2).f1).length c239_1] 77 (0, 0))) := ⟨by (with_reducible repeat (first | refine blk_drewN ?_ _ | refine blk_drew ?_ | refine blk_alloc ?_ _)); refine blk_put (cs := #[.string ((rd_T77 l0_1 x24_2).f0), .slice none 0 0]) ?_ 1 _ rfl; (with_reducible repeat (first | refine blk_drewN ?_ _ | refine blk_drew ?_ | refine blk_alloc ?_ _)); refine blk_put (cs := #[.string (⟨#[]⟩ : ByteArray), .slice none 0 0]) ?_ 0 _ rfl; (with_reducible repeat (first | refine blk_drewN ?_ _ | refine blk_drew ?_ | refine blk_alloc ?_ _)); exact BK240.out⟩
         have n2_ : Aside0 (Below w.heap.size w ((w31.setCell ⟨gb240, 0, none⟩ (.string ((rd_T77 l0_1 x24_2).f0))).setCell ⟨gb240, 1, none⟩ (.slice A239_1 ((rd_T77 l0_1 x24_2).f1).length c239_1))) := ⟨zB⟩; (try clear BK236); (try clear BK240); (try clear HB); generalize ((w31.setCell ⟨gb240, 0, none⟩ (.string ((rd_T77 l0_1 x24_2).f0))).setCell ⟨gb240, 1, none⟩ (.slice A239_1 ((rd_T77 l0_1 x24_2).f1).length c239_1)) = w34 at n0_ n1_ n2_ ⊢; have BK236 := n0_; have BK240 := n1_; have HB := n2_; clear n0_ n1_ n2_; replace BK236 := Aside0.mk (blk_drew BK236.out); replace BK240 := Aside0.mk (blk_drew BK240.out); replace HB := Aside0.mk (below_drew1 HB.out)
         refine start_ (n := 13) (S := fun w' => w'.cell? ⟨gb240, 0, none⟩ = some (.string ((rd_T77 l0_1 x24_2).f0)) ∧ w'.cell? ⟨gb240, 1, none⟩ = some (.slice A239_1 ((rd_T77 l0_1 x24_2).f1).length c239_1) ∧ w'.cell? ⟨gb236, 0, none⟩ = some (.string a0_0) ∧ w'.cell? ⟨gb236, 1, none⟩ = some (.slice (some ad239) l0_1.length c0_1) ∧ w'.cell? ⟨gb236, 2, none⟩ = some (.string a0_2)) (ds := []) (bs 13 0) (by kernel_rfl) rfl rfl ⟨(blk_cell BK240.out 0).trans rfl, (blk_cell BK240.out 1).trans rfl, (blk_cell BK236.out 0).trans rfl, (blk_cell BK236.out 1).trans rfl, (blk_cell BK236.out 2).trans rfl⟩ (fun hHeld => ?_); refine with_tabW line_Formed.tab6 line_Formed.bits6 (fun HT_ HW_ => ?_); generalize w34.drew = w35 at BK236 BK240 HB hHeld ⊢; refine zt 0 29 (bs 13 1) ?_; refine one_ (i := 1) (N := some 30) (bs 13 3) rfl rfl (one_of HT_.out (by kernel_rfl)) (by decide) (fun K hK => ?_)
         refine goes_ Tryz.func71 (by kernel_rfl) rfl #[.agg #[.string ((rd_T77 l0_1 x24_2).f0), .slice A239_1 ((rd_T77 l0_1 x24_2).f1).length c239_1]] (by rfl) rfl rfl zA ?_
         with_reducible refine (line_Param_formed.calls k2 ((rd_T77 l0_1 x24_2).f0) _ _ ((rd_T77 l0_1 x24_2).f1) true _ zG ?side1 ?side2 A17.out).mono ?_
         (case side1 => exact Kd.C_below (Kd.C_below HR239_1.out HB.out) zX)
         (case side2 => exact HC239_1.out)
         rintro e w36 ⟨rfl, hb⟩; refine ⟨_, rfl, ?_⟩; replace BK236 := zb BK236 hb; replace BK240 := zb BK240 hb; replace HB := zw hb; clear hb; (try clear hb2); (try clear hk); (try clear hi); have q37 := zQ ((x24_2 : Int) ≤ ((l0_1.length : Int) : Int)); obtain ⟨i037, hi037, _, hsz37, _⟩ := info_parts info77; have hroom37 : l0_1.length ≤ c0_1 := HC0_1.out; have hC37 : Kd.C k77 _ (some ad239) l0_1.length l0_1 := HR0_1.out; have hcut37 := cut_to (P := Tryz.prog) 47 77 .i64 Tryz.underlying47 hi037 (some ad239) l0_1.length c0_1 x24_2 (of_decide_eq_true (by first | (with_reducible assumption) | assumption)) q37 hroom37; have hr37 := Kd.C_take (m := (x24_2 : Int).toNat) hC37 (by omega)
         have hy37 : y242.length = (x24_2 : Int).toNat := (by rw [Ny242.out, List.length_take]; omega); rw [← Ny242.out] at hr37; rw [← hy37] at hcut37; have HR245 := Aside0.mk hr37; have HC245 := Aside0.mk (show y242.length ≤ c0_1 from by omega); clear hr37 hC37 hroom37 hi037 hsz37; have KY37 := Aside0.mk hy37; clear hy37; replace q37 := eq_true q37; refine hK.out _ _ ⟨(blk_cell BK240.out 0).trans rfl, (blk_cell BK240.out 1).trans rfl, (blk_cell BK236.out 0).trans rfl, (blk_cell BK236.out 1).trans rfl, (blk_cell BK236.out 2).trans rfl⟩ (fun hHeld => ?_); clear hK K; refine zr ?_; refine zp 2 31 (bs 13 7) ?_; refine zp 3 32 (bs 13 15) ?_; refine zp 4 33 (bs 13 31) ?_; refine zp 6 35 (bs 13 95) ?_; refine zp 8 37 (bs 13 351) ?_; refine zt 5 34 (bs 13 383) ?_; refine zp 7 36 (bs 13 511) ?_; refine zt 9 38 (bs 13 1023) ?_
         refine one_ (i := 10) (N := some 39) (bs 13 2047) rfl rfl (one_of HT_.out (by kernel_rfl)) (by decide) (fun K hK => ?_); refine goes_ Tryz.func72 (by kernel_rfl) rfl #[.slice (some ad239) y242.length c0_1, .string ((rd_T77 l0_1 x24_2).f0)] (by rfl) rfl rfl zA ?_
         with_reducible refine (line_at.calls _ _ y242 ((rd_T77 l0_1 x24_2).f0) t246 _ zG ?side1 ?side2 A21.out).mono ?_
         (case side1 => exact Kd.C_below (Kd.C_below HR245.out HB.out) zX)
         (case side2 => exact HC245.out)
         rintro e w38 ⟨rfl, hb⟩; refine ⟨_, rfl, ?_⟩; replace BK236 := zb BK236 hb; replace BK240 := zb BK240 hb; replace HB := zw hb; clear hb; (try clear hb2); (try clear hk); (try clear hi); refine hK.out _ _ ⟨(blk_cell BK240.out 0).trans rfl, (blk_cell BK240.out 1).trans rfl, (blk_cell BK236.out 0).trans rfl, (blk_cell BK236.out 1).trans rfl, (blk_cell BK236.out 2).trans rfl⟩ (fun hHeld => ?_); clear hK K; refine zr ?_; refine zp 11 40 (bs 13 4095) ?_; refine zp 12 41 (bs 13 8191) ?_; refine done_ (done_of HT_.out (by kernel_rfl)) ?_
         try go_wp2
         go_roundg k2
         case measure => have := HJ1.out; have := HK2.out; omega
         case rel => exact ⟨(wrap64 (x24_2 + 1)), zS, H', ⟨by have := HJ1.out; have := HK2.out; omega⟩, ⟨blk_below BK236.out zX⟩, ⟨zB⟩⟩
       ·obtain rfl := Option.some.inj H; have p239 := zQ (0 ≤ (x24_2 : Int)); have q239 := zQ (x24_2 < (l0_1.length : Int)); obtain ⟨ad239, A239_1, c239_1, e239, hx239_0, hx239_1, hl239_1, hi239_1⟩ := at_T77 HR0_1.out x24_2 p239 q239
        cases e239
        replace hx239_0 := zx HB hx239_0; replace hx239_1 := zx HB hx239_1; have HR239_1 := Aside0.mk hi239_1; have HC239_1 := Aside0.mk hl239_1; clear hi239_1 hl239_1; replace p239 := eq_true p239; replace q239 := eq_true q239
        try go_wp2_with (first | ((with_reducible refine gate_dst (N := 4) rfl ?_); (try (refine gate_guard (by rfl) ?_; dsimp only)); refine zbox (N := 4) #[.string (⟨#[]⟩ : ByteArray), .slice none 0 0] 77 (fun gb240 hg w39 hbox hb => ?_); replace BK240 := Aside0.mk hbox; replace GE240 := zg w hg; replace HB := zw hb; replace NB236_240 := zn BK236 hg; replace NB240_236 := zm BK236 hg; replace BK236 := zb BK236 hb; clear hb hbox hg; have hnb40 := NB240_236.out; have hnc40 := NB236_240.out; obtain ⟨hcz41_0, hcz41_1, hfz41_0, hfz41_1⟩ := zk2 BK240))
        have n0_ : Aside0 (((w39.setCell ⟨gb240, 0, none⟩ (.string ((rd_T77 l0_1 x24_2).f0))).setCell ⟨gb240, 1, none⟩ (.slice A239_1 ((rd_T77 l0_1 x24_2).f1).length c239_1)).heap[gb236]? = some (.cells #[.string a0_0, .slice (some ad239) l0_1.length c0_1, .string a0_2] 49 (0, 0))) := ⟨by (with_reducible repeat (first | refine blk_drewN ?_ _ | refine blk_drew ?_ | refine blk_alloc ?_ _)); refine blk_far ?_ NB236_240.out _; (with_reducible repeat (first | refine blk_drewN ?_ _ | refine blk_drew ?_ | refine blk_alloc ?_ _)); refine blk_far ?_ NB236_240.out _; (with_reducible repeat (first | refine blk_drewN ?_ _ | refine blk_drew ?_ | refine blk_alloc ?_ _)); exact BK236.out⟩
        have n1_ : Aside0 (((w39.setCell ⟨gb240, 0, none⟩ (.string ((rd_T77 l0_1 x24_2).f0))).setCell ⟨gb240, 1, none⟩ (.slice A239_1 ((rd_T77 l0_1 x24_2).f1).length c239_1)).heap[gb240]? = some (.cells #[.string ((rd_T77 l0_1 x24_2).f0), .slice A239_1 ((rd_T77 l0_1 x24_2).f1).length c239_1] 77 (0, 0))) := ⟨by (with_reducible repeat (first | refine blk_drewN ?_ _ | refine blk_drew ?_ | refine blk_alloc ?_ _)); refine blk_put (cs := #[.string ((rd_T77 l0_1 x24_2).f0), .slice none 0 0]) ?_ 1 _ rfl; (with_reducible repeat (first | refine blk_drewN ?_ _ | refine blk_drew ?_ | refine blk_alloc ?_ _)); refine blk_put (cs := #[.string (⟨#[]⟩ : ByteArray), .slice none 0 0]) ?_ 0 _ rfl; (with_reducible repeat (first | refine blk_drewN ?_ _ | refine blk_drew ?_ | refine blk_alloc ?_ _)); exact BK240.out⟩
        have n2_ : Aside0 (Below w.heap.size w ((w39.setCell ⟨gb240, 0, none⟩ (.string ((rd_T77 l0_1 x24_2).f0))).setCell ⟨gb240, 1, none⟩ (.slice A239_1 ((rd_T77 l0_1 x24_2).f1).length c239_1))) := ⟨zB⟩; (try clear BK236); (try clear BK240); (try clear HB); generalize ((w39.setCell ⟨gb240, 0, none⟩ (.string ((rd_T77 l0_1 x24_2).f0))).setCell ⟨gb240, 1, none⟩ (.slice A239_1 ((rd_T77 l0_1 x24_2).f1).length c239_1)) = w42 at n0_ n1_ n2_ ⊢; have BK236 := n0_; have BK240 := n1_; have HB := n2_; clear n0_ n1_ n2_; replace BK236 := Aside0.mk (blk_drew BK236.out); replace BK240 := Aside0.mk (blk_drew BK240.out); replace HB := Aside0.mk (below_drew1 HB.out)
        refine start_ (n := 13) (S := fun w' => w'.cell? ⟨gb240, 0, none⟩ = some (.string ((rd_T77 l0_1 x24_2).f0)) ∧ w'.cell? ⟨gb240, 1, none⟩ = some (.slice A239_1 ((rd_T77 l0_1 x24_2).f1).length c239_1)) (ds := []) (bs 13 0) (by kernel_rfl) rfl rfl ⟨(blk_cell BK240.out 0).trans rfl, (blk_cell BK240.out 1).trans rfl⟩ (fun hHeld => ?_); refine with_tabW line_Formed.tab6 line_Formed.bits6 (fun HT_ HW_ => ?_); generalize w42.drew = w43 at BK236 BK240 HB hHeld ⊢; refine zt 0 29 (bs 13 1) ?_; refine one_ (i := 1) (N := some 30) (bs 13 3) rfl rfl (one_of HT_.out (by kernel_rfl)) (by decide) (fun K hK => ?_); refine goes_ Tryz.func71 (by kernel_rfl) rfl #[.agg #[.string ((rd_T77 l0_1 x24_2).f0), .slice A239_1 ((rd_T77 l0_1 x24_2).f1).length c239_1]] (by rfl) rfl rfl zA ?_
        with_reducible refine (line_Param_formed.calls k2 ((rd_T77 l0_1 x24_2).f0) _ _ ((rd_T77 l0_1 x24_2).f1) false _ zG ?side1 ?side2 A17.out).mono ?_
        (case side1 => exact Kd.C_below (Kd.C_below HR239_1.out HB.out) zX)
        (case side2 => exact HC239_1.out)
        rintro e w44 ⟨rfl, hb⟩; refine ⟨_, rfl, ?_⟩; replace BK236 := zb BK236 hb; replace BK240 := zb BK240 hb; replace HB := zw hb; clear hb; (try clear hb2); (try clear hk); (try clear hi); refine hK.out _ _ ⟨(blk_cell BK240.out 0).trans rfl, (blk_cell BK240.out 1).trans rfl⟩ (fun hHeld => ?_); clear hK K; refine zr ?_; refine zp 2 31 (bs 13 7) ?_; refine zp 3 32 (bs 13 15) ?_; refine zu 4 33 (bs 13 31) ?_; refine zu 5 34 (bs 13 63) ?_; refine zu 6 35 (bs 13 127) ?_; refine zu 7 36 (bs 13 255) ?_; refine zu 8 37 (bs 13 511) ?_; refine zu 9 38 (bs 13 1023) ?_; refine zu 10 39 (bs 13 2047) ?_; refine zu 11 40 (bs 13 4095) ?_; refine zp 12 41 (bs 13 8191) ?_
        refine done_ (done_of HT_.out (by kernel_rfl)) ?_
        try go_wp2
        go_ret; exact ⟨zE, zB⟩
      ·obtain rfl := Option.some.inj H; go_wp2; go_ret; exact ⟨zE, zB⟩
end Go.Proofs.YtdojmdbaiddkgaaGreatDoor.Print
end
