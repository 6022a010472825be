/- Parts of the proof: Shelf. -/
import Derived.Shelf.Strings.Builder1
import Derived.Shelf.Strings.Builder2
import Derived.Shelf.Strings.Trim
import Derived.Shelf.Small.Utf8
import Derived.Shelf.Small.Bits
import Derived.Shelf.Small.Strs
import Derived.Shelf.Small.Wraps
import Derived.Shelf.Strings.BuilderF
import Derived.Shelf.Strings.BuilderK
import Derived.Shelf.LaysM
import Derived.Shelf.Strconv.Clone
import Derived.Shelf.Strings.Search1
import Derived.Shelf.Strings.Search2
import Derived.Shelf.Strings.Search3
import Derived.Shelf.Strings.Cut
import Derived.Shelf.Strings.Count
import Derived.Shelf.Strings.Shaped
import Derived.Shelf.Strings.Split
import Derived.Shelf.Strings.Replace
import Derived.Test.YtmbfenkmabdokaaGreatDoorProg
import Derived.Shelf.SlSortCmp.NoneTotal
import Derived.Shelf.SlGeneric
import Derived.Ground.SlsfProg
import Derived.Shelf.Strings.SlTrimAscii
set_option linter.all false
namespace Go.Proofs
open Go.Shelf
def Tryz.lays170_ren : Go.Shelf.Ren := ⟨fun | 170 => 101 | n => n, fun | 70 => 114 | 3 => 3 | 0 => 0 | 72 => 116 | 37 => 26 | 5 => 5 | n => n, fun | n => n⟩
theorem Tryz.lays170 : Go.Proofs.Lays.n170 Tryz.prog Tryz.lays170_ren := {
  mixed := by kernel_rfl
  f170 := Tryz.func101.trans (congrArg some (by kernel_rfl))
  t0 := Tryz.underlying0
  a0 := Tryz.isAgg0
  z0 := Tryz.sizeOf0
  v0 := Tryz.zeroValue0
  t3 := Tryz.underlying3
  a3 := Tryz.isAgg3
  z3 := Tryz.sizeOf3
  v3 := Tryz.zeroValue3
  t37 := Tryz.underlying26
  a37 := Tryz.isAgg26
  z37 := Tryz.sizeOf26
  v37 := Tryz.zeroValue26
  t70 := Tryz.underlying114
  a70 := Tryz.isAgg114
  z70 := Tryz.sizeOf114
  v70 := Tryz.zeroValue114
  t72 := Tryz.underlying116
  a72 := Tryz.isAgg116
  z72 := Tryz.sizeOf116
  v72 := Tryz.zeroValue116 }
open Go.RowKit in
/-- (*strings.Builder).Len: "Len returns the number of accumulated bytes; b.Len() == len(b.String()).": the world is as it was. (THE FORM '_f': 'Lib.IsBuilderF'.) (LAID: no walk: one application.) -/
theorem Tryz.Builder_Len_f (B b : Nat) (bs : List Value) (w : World) (h : Lib.IsBuilderF 116 5 B b bs w) :
    Calls Tryz.prog 101 #[.pointer (some ⟨b, 0, none⟩)] w fun e w' => e = .returned (.int .i64 bs.length) ∧ w' = w := Any.Builder_Len_f Tryz.lays170 B b bs w h
def Tryz.lays169_ren : Go.Shelf.Ren := ⟨fun | 169 => 78 | n => n, fun | 70 => 114 | 9 => 9 | 0 => 0 | 72 => 116 | 37 => 26 | 127 => 200 | 3 => 3 | 5 => 5 | n => n, fun | n => n⟩
theorem Tryz.lays169 : Go.Proofs.Lays.n169 Tryz.prog Tryz.lays169_ren := {
  mixed := by kernel_rfl
  f169 := Tryz.func78.trans (congrArg some (by kernel_rfl))
  t0 := Tryz.underlying0
  a0 := Tryz.isAgg0
  z0 := Tryz.sizeOf0
  v0 := Tryz.zeroValue0
  t3 := Tryz.underlying3
  a3 := Tryz.isAgg3
  z3 := Tryz.sizeOf3
  v3 := Tryz.zeroValue3
  t9 := Tryz.underlying9
  a9 := Tryz.isAgg9
  z9 := Tryz.sizeOf9
  v9 := Tryz.zeroValue9
  t37 := Tryz.underlying26
  a37 := Tryz.isAgg26
  z37 := Tryz.sizeOf26
  v37 := Tryz.zeroValue26
  t70 := Tryz.underlying114
  a70 := Tryz.isAgg114
  z70 := Tryz.sizeOf114
  v70 := Tryz.zeroValue114
  t72 := Tryz.underlying116
  a72 := Tryz.isAgg116
  z72 := Tryz.sizeOf116
  v72 := Tryz.zeroValue116
  t127 := Tryz.underlying200
  a127 := Tryz.isAgg200
  z127 := Tryz.sizeOf200
  v127 := Tryz.zeroValue200 }
theorem Tryz.Builder_Extra_169 : Builder.Extra Tryz.prog Tryz.lays169_ren := {
  sizeBuilder := by kernel_rfl
  liesBuilder := by kernel_rfl
  t5 := Tryz.underlying5
  a5 := Tryz.isAgg5
  z5 := Tryz.sizeOf5
  v5 := Tryz.zeroValue5
  infoByte := by kernel_rfl
  cellsByte := by kernel_rfl
  sizeByte := by kernel_rfl
  neB5 := by decide }
open Go.RowKit in
/-- (*strings.Builder).String: "String returns the accumulated string.": WHATEVER THE BUILDER HOLDS; THE FORM '_k': OVER 'Lib.IsBuilderF' (a builder that 'String()' may have read), AND WITH THE FRAME THAT REACHES ABOVE THE BUILDER: 'Lib.OthersKept': every block that is not b and is no row of uint8's stands as it stood: the iterator of a range among them. (LAID: no walk: one application.) -/
theorem Tryz.Builder_String_any_k (B b : Nat) (l : List UInt8) (w : World) (h : Lib.IsBuilderF 116 5 B b (Lib.byteCells l) w) (hBw : B ≤ w.heap.size) :
    Calls Tryz.prog 78 #[.pointer (some ⟨b, 0, none⟩)] w fun e w' => e = .returned (.string ⟨l.toArray⟩) ∧ (Lib.IsBuilderF 116 5 B b (Lib.byteCells l) w' ∧ Below B w w' ∧ Lib.OthersKept 5 (some b) w w') := Any.Builder_String_any_k Tryz.lays169 Tryz.Builder_Extra_169 B b l w h hBw
def Tryz.laysM316_ren : Go.Shelf.Ren := ⟨fun | 316 => 81 | n => n, fun | 9 => 9 | 3 => 3 | 4 => 4 | 37 => 26 | 0 => 0 | 127 => 200 | 5 => 5 | n => n, fun | n => n⟩
theorem Tryz.laysM316 : Go.Proofs.LaysM.n316 Tryz.prog Tryz.laysM316_ren := {
  mixed := by kernel_rfl
  f316 := Tryz.func81.trans (congrArg some (by kernel_rfl))
  t0 := Tryz.underlying0
  a0 := Tryz.isAgg0
  z0 := Tryz.sizeOf0
  v0 := Tryz.zeroValue0
  t3 := Tryz.underlying3
  a3 := Tryz.isAgg3
  z3 := Tryz.sizeOf3
  v3 := Tryz.zeroValue3
  t4 := Tryz.underlying4
  a4 := Tryz.isAgg4
  z4 := Tryz.sizeOf4
  v4 := Tryz.zeroValue4
  t9 := Tryz.underlying9
  a9 := Tryz.isAgg9
  z9 := Tryz.sizeOf9
  v9 := Tryz.zeroValue9
  t37 := Tryz.underlying26
  a37 := Tryz.isAgg26
  z37 := Tryz.sizeOf26
  v37 := Tryz.zeroValue26
  t127 := Tryz.underlying200
  a127 := Tryz.isAgg200
  z127 := Tryz.sizeOf200
  v127 := Tryz.zeroValue200
  t5 := Tryz.underlying5
  a5 := Tryz.isAgg5
  z5 := Tryz.sizeOf5
  v5 := Tryz.zeroValue5
  i0 := by kernel_rfl
  i3 := by kernel_rfl
  i4 := by kernel_rfl
  i5 := by kernel_rfl
  i9 := by kernel_rfl
  i37 := by kernel_rfl
  i127 := by kernel_rfl }
open Go.RowKit in
/-- internal/stringslite.Clone (what strings.Clone calls): "Clone returns a fresh copy of s.": THE SAME BYTES. Of what was there nothing has turned (a new row is laid, and frozen, where s is not empty). (LAID: no walk: one application.) -/
theorem Tryz.stringslite_Clone (s : ByteArray) (w : World) (hlim : s.size ≤ 281474976710656) :
    Calls Tryz.prog 81 #[.string s] w fun e w' => e = .returned (.string s) ∧ Below w.heap.size w w' := Any.stringslite_Clone Tryz.laysM316 s w hlim
def Tryz.lays219_ren : Go.Shelf.Ren := ⟨fun | 219 => 134 | 217 => 179 | 225 => 180 | 224 => 181 | 267 => 182 | 266 => 238 | 314 => 239 | n => n, fun | 9 => 9 | 3 => 3 | 4 => 4 | 5 => 5 | 46 => 118 | 146 => 338 | 51 => 279 | n => n, fun | 1 => 0 | n => n⟩
theorem Tryz.lays219 : Go.Proofs.Lays.n219 Tryz.prog Tryz.lays219_ren := {
  mixed := by kernel_rfl
  f217 := Tryz.func179.trans (congrArg some (by kernel_rfl))
  f219 := Tryz.func134.trans (congrArg some (by kernel_rfl))
  f224 := Tryz.func181.trans (congrArg some (by kernel_rfl))
  f225 := Tryz.func180.trans (congrArg some (by kernel_rfl))
  f266 := Tryz.func238.trans (congrArg some (by kernel_rfl))
  f267 := Tryz.func182.trans (congrArg some (by kernel_rfl))
  f314 := Tryz.func239.trans (congrArg some (by kernel_rfl))
  t3 := Tryz.underlying3
  a3 := Tryz.isAgg3
  z3 := Tryz.sizeOf3
  v3 := Tryz.zeroValue3
  t4 := Tryz.underlying4
  a4 := Tryz.isAgg4
  z4 := Tryz.sizeOf4
  v4 := Tryz.zeroValue4
  t5 := Tryz.underlying5
  a5 := Tryz.isAgg5
  z5 := Tryz.sizeOf5
  v5 := Tryz.zeroValue5
  t9 := Tryz.underlying9
  a9 := Tryz.isAgg9
  z9 := Tryz.sizeOf9
  v9 := Tryz.zeroValue9
  t46 := Tryz.underlying118
  a46 := Tryz.isAgg118
  z46 := Tryz.sizeOf118
  v46 := Tryz.zeroValue118
  t51 := Tryz.underlying279
  a51 := Tryz.isAgg279
  z51 := Tryz.sizeOf279
  v51 := Tryz.zeroValue279
  t146 := Tryz.underlying338
  a146 := Tryz.isAgg338
  z146 := Tryz.sizeOf338
  v146 := Tryz.zeroValue338
  g1 := by kernel_rfl }
open Go.RowKit Go.Lib in
/-- internal/stringslite.Index (what strings.Index calls) AT A substr OF ONE BYTE c: IT RETURNS 'Lib.indexByte s c'; the world is as it was. (LAID: no walk: one application.) -/
theorem Tryz.stringslite_Index_one (s : ByteArray) (c : UInt8) (w : World) :
    Calls Tryz.prog 134 #[.string s, .string ⟨#[c]⟩] w fun e w' => e = .returned (.int .i64 (Lib.indexByte s.data.toList c)) ∧ w' = w := Any.stringslite_Index_one Tryz.lays219 s c w
def Tryz.lays138_ren : Go.Shelf.Ren := ⟨fun | 138 => 193 | 195 => 244 | 218 => 245 | 143 => 195 | 219 => 134 | 217 => 179 | 225 => 180 | 224 => 181 | 267 => 182 | 266 => 238 | 314 => 239 | n => n, fun | 9 => 9 | 3 => 3 | 4 => 4 | 5 => 5 | 0 => 0 | 46 => 118 | 146 => 338 | 51 => 279 | n => n, fun | 1 => 0 | n => n⟩
theorem Tryz.lays138 : Go.Proofs.Lays.n138 Tryz.prog Tryz.lays138_ren := {
  mixed := by kernel_rfl
  f138 := Tryz.func193.trans (congrArg some (by kernel_rfl))
  f143 := Tryz.func195.trans (congrArg some (by kernel_rfl))
  f195 := Tryz.func244.trans (congrArg some (by kernel_rfl))
  f217 := Tryz.func179.trans (congrArg some (by kernel_rfl))
  f218 := Tryz.func245.trans (congrArg some (by kernel_rfl))
  f219 := Tryz.func134.trans (congrArg some (by kernel_rfl))
  f224 := Tryz.func181.trans (congrArg some (by kernel_rfl))
  f225 := Tryz.func180.trans (congrArg some (by kernel_rfl))
  f266 := Tryz.func238.trans (congrArg some (by kernel_rfl))
  f267 := Tryz.func182.trans (congrArg some (by kernel_rfl))
  f314 := Tryz.func239.trans (congrArg some (by kernel_rfl))
  t0 := Tryz.underlying0
  a0 := Tryz.isAgg0
  z0 := Tryz.sizeOf0
  v0 := Tryz.zeroValue0
  t3 := Tryz.underlying3
  a3 := Tryz.isAgg3
  z3 := Tryz.sizeOf3
  v3 := Tryz.zeroValue3
  t4 := Tryz.underlying4
  a4 := Tryz.isAgg4
  z4 := Tryz.sizeOf4
  v4 := Tryz.zeroValue4
  t5 := Tryz.underlying5
  a5 := Tryz.isAgg5
  z5 := Tryz.sizeOf5
  v5 := Tryz.zeroValue5
  t9 := Tryz.underlying9
  a9 := Tryz.isAgg9
  z9 := Tryz.sizeOf9
  v9 := Tryz.zeroValue9
  t46 := Tryz.underlying118
  a46 := Tryz.isAgg118
  z46 := Tryz.sizeOf118
  v46 := Tryz.zeroValue118
  t51 := Tryz.underlying279
  a51 := Tryz.isAgg279
  z51 := Tryz.sizeOf279
  v51 := Tryz.zeroValue279
  t146 := Tryz.underlying338
  a146 := Tryz.isAgg338
  z146 := Tryz.sizeOf338
  v146 := Tryz.zeroValue338
  g1 := by kernel_rfl }
open Go.RowKit Go.Lib in
/-- strings.Count AT A substr OF ONE BYTE ('hp'): "Count counts the number of non-overlapping instances of substr in s.": IT RETURNS 'Lib.countByte s (that byte)'; the world is as it was. ✋ NO CONTRACT HERE YET at an empty substr (utf8.RuneCountInString) or at a longer one (a loop over strings.Index). (LAID: no walk: one application.) -/
theorem Tryz.strings_Count_one (s : ByteArray) (c : UInt8) (w : World) :
    Calls Tryz.prog 193 #[.string s, .string ⟨#[c]⟩] w fun e w' => e = .returned (.int .i64 (Lib.countByte s.data.toList c)) ∧ w' = w := Any.strings_Count_one Tryz.lays138 s c w
def Tryz.lays106_ren : Go.Shelf.Ren := ⟨fun | 106 => 107 | 213 => 154 | 265 => 206 | n => n, fun | 9 => 9 | 3 => 3 | n => n, fun | n => n⟩
theorem Tryz.lays106 : Go.Proofs.Lays.n106 Tryz.prog Tryz.lays106_ren := {
  mixed := by kernel_rfl
  f106 := Tryz.func107.trans (congrArg some (by kernel_rfl))
  f213 := Tryz.func154.trans (congrArg some (by kernel_rfl))
  f265 := Tryz.func206.trans (congrArg some (by kernel_rfl))
  t3 := Tryz.underlying3
  a3 := Tryz.isAgg3
  z3 := Tryz.sizeOf3
  v3 := Tryz.zeroValue3
  t9 := Tryz.underlying9
  a9 := Tryz.isAgg9
  z9 := Tryz.sizeOf9
  v9 := Tryz.zeroValue9 }
open Go.RowKit in
/-- strings.Compare: "Compare returns an integer comparing two strings lexicographically. The result will be 0 if a == b, -1 if a < b, and +1 if a > b.": IT RETURNS 'Lib.compareBytes a b'; the world is as it was. (LAID: no walk: one application.) -/
theorem Tryz.strings_Compare (a b : ByteArray) (w : World) :
    Calls Tryz.prog 107 #[.string a, .string b] w fun e w' => e = .returned (.int .i64 (Lib.compareBytes a.data.toList b.data.toList)) ∧ w' = w := Any.strings_Compare Tryz.lays106 a b w
def Tryz.lays125_ren : Go.Shelf.Ren := ⟨fun | 125 => 153 | 128 => 204 | 129 => 205 | n => n, fun | 46 => 118 | 3 => 3 | 51 => 279 | 53 => 122 | 4 => 4 | 5 => 5 | 9 => 9 | n => n, fun | n => n⟩
theorem Tryz.lays125 : Go.Proofs.Lays.n125 Tryz.prog Tryz.lays125_ren := {
  mixed := by kernel_rfl
  f125 := Tryz.func153.trans (congrArg some (by kernel_rfl))
  f128 := Tryz.func204.trans (congrArg some (by kernel_rfl))
  f129 := Tryz.func205.trans (congrArg some (by kernel_rfl))
  t3 := Tryz.underlying3
  a3 := Tryz.isAgg3
  z3 := Tryz.sizeOf3
  v3 := Tryz.zeroValue3
  t4 := Tryz.underlying4
  a4 := Tryz.isAgg4
  z4 := Tryz.sizeOf4
  v4 := Tryz.zeroValue4
  t5 := Tryz.underlying5
  a5 := Tryz.isAgg5
  z5 := Tryz.sizeOf5
  v5 := Tryz.zeroValue5
  t9 := Tryz.underlying9
  a9 := Tryz.isAgg9
  z9 := Tryz.sizeOf9
  v9 := Tryz.zeroValue9
  t46 := Tryz.underlying118
  a46 := Tryz.isAgg118
  z46 := Tryz.sizeOf118
  v46 := Tryz.zeroValue118
  t51 := Tryz.underlying279
  a51 := Tryz.isAgg279
  z51 := Tryz.sizeOf279
  v51 := Tryz.zeroValue279
  t53 := Tryz.underlying122
  a53 := Tryz.isAgg122
  z53 := Tryz.sizeOf122
  v53 := Tryz.zeroValue122 }
/-- bits.Len: "Len returns the minimum number of bits required to represent x; the result is 0 for x == 0.": IT RETURNS 'Lib.bitLen x'; the world is as it was. (A uint has 64 bits in the model.) ITS CALLEE bits.Len64 IS MET BY ITS OWN CONTRACT OFF THE SHELF (lay that first). (LAID: no walk: one application.) -/
theorem Tryz.bits_Len (x : Int) (w : World) (h0 : 0 ≤ x) (h1 : x ≤ 18446744073709551615) :
    Calls Tryz.prog 153 #[.int .u64 x] w fun e w' => e = .returned (.int .i64 (Lib.bitLen x.toNat)) ∧ w' = w := Any.bits_Len Tryz.lays125 x w h0 h1
def Tryz.lays160_ren : Go.Shelf.Ren := ⟨fun | 160 => 76 | 232 => 126 | 231 => 125 | 227 => 127 | 234 => 129 | 233 => 128 | 236 => 131 | 235 => 130 | 228 => 172 | 271 => 175 | 151 => 174 | 197 => 173 | 120 => 236 | 152 => 235 | 260 => 234 | 137 => 275 | 119 => 276 | 224 => 181 | 225 => 180 | 217 => 179 | 266 => 238 | n => n, fun | 9 => 9 | 4 => 4 | 3 => 3 | 5 => 5 | 117 => 196 | 116 => 195 | 0 => 0 | 124 => 199 | 21 => 21 | 105 => 274 | 46 => 118 | 119 => 376 | 139 => 379 | 138 => 378 | n => n, fun | 3 => 1 | 4 => 2 | n => n⟩
theorem Tryz.lays160 : Go.Proofs.Lays.n160 Tryz.prog Tryz.lays160_ren := {
  mixed := by kernel_rfl
  f119 := Tryz.func276.trans (congrArg some (by kernel_rfl))
  f120 := Tryz.func236.trans (congrArg some (by kernel_rfl))
  f137 := Tryz.func275.trans (congrArg some (by kernel_rfl))
  f151 := Tryz.func174.trans (congrArg some (by kernel_rfl))
  f152 := Tryz.func235.trans (congrArg some (by kernel_rfl))
  f160 := Tryz.func76.trans (congrArg some (by kernel_rfl))
  f197 := Tryz.func173.trans (congrArg some (by kernel_rfl))
  f217 := Tryz.func179.trans (congrArg some (by kernel_rfl))
  f224 := Tryz.func181.trans (congrArg some (by kernel_rfl))
  f225 := Tryz.func180.trans (congrArg some (by kernel_rfl))
  f227 := Tryz.func127.trans (congrArg some (by kernel_rfl))
  f228 := Tryz.func172.trans (congrArg some (by kernel_rfl))
  f231 := Tryz.func125.trans (congrArg some (by kernel_rfl))
  f232 := Tryz.func126.trans (congrArg some (by kernel_rfl))
  f233 := Tryz.func128.trans (congrArg some (by kernel_rfl))
  f234 := Tryz.func129.trans (congrArg some (by kernel_rfl))
  f235 := Tryz.func130.trans (congrArg some (by kernel_rfl))
  f236 := Tryz.func131.trans (congrArg some (by kernel_rfl))
  f260 := Tryz.func234.trans (congrArg some (by kernel_rfl))
  f266 := Tryz.func238.trans (congrArg some (by kernel_rfl))
  f271 := Tryz.func175.trans (congrArg some (by kernel_rfl))
  t0 := Tryz.underlying0
  a0 := Tryz.isAgg0
  z0 := Tryz.sizeOf0
  v0 := Tryz.zeroValue0
  t3 := Tryz.underlying3
  a3 := Tryz.isAgg3
  z3 := Tryz.sizeOf3
  v3 := Tryz.zeroValue3
  t4 := Tryz.underlying4
  a4 := Tryz.isAgg4
  z4 := Tryz.sizeOf4
  v4 := Tryz.zeroValue4
  t5 := Tryz.underlying5
  a5 := Tryz.isAgg5
  z5 := Tryz.sizeOf5
  v5 := Tryz.zeroValue5
  t9 := Tryz.underlying9
  a9 := Tryz.isAgg9
  z9 := Tryz.sizeOf9
  v9 := Tryz.zeroValue9
  t21 := Tryz.underlying21
  a21 := Tryz.isAgg21
  z21 := Tryz.sizeOf21
  v21 := Tryz.zeroValue21
  t46 := Tryz.underlying118
  a46 := Tryz.isAgg118
  z46 := Tryz.sizeOf118
  v46 := Tryz.zeroValue118
  t105 := Tryz.underlying274
  a105 := Tryz.isAgg274
  z105 := Tryz.sizeOf274
  v105 := Tryz.zeroValue274
  t116 := Tryz.underlying195
  a116 := Tryz.isAgg195
  z116 := Tryz.sizeOf195
  t117 := Tryz.underlying196
  a117 := Tryz.isAgg196
  z117 := Tryz.sizeOf196
  v117 := Tryz.zeroValue196
  t119 := Tryz.underlying376
  a119 := Tryz.isAgg376
  z119 := Tryz.sizeOf376
  t124 := Tryz.underlying199
  a124 := Tryz.isAgg199
  z124 := Tryz.sizeOf199
  v124 := Tryz.zeroValue199
  t138 := Tryz.underlying378
  a138 := Tryz.isAgg378
  z138 := Tryz.sizeOf378
  v138 := Tryz.zeroValue378
  t139 := Tryz.underlying379
  a139 := Tryz.isAgg379
  z139 := Tryz.sizeOf379
  v139 := Tryz.zeroValue379
  g3 := by kernel_rfl
  g4 := by kernel_rfl }
def Tryz.sortEnt_ren : Go.Shelf.Ren := ⟨fun | 6 => 105 | 15 => 153 | 14 => 152 | 28 => 204 | 29 => 205 | 20 => 196 | 21 => 197 | 22 => 198 | 23 => 199 | 24 => 200 | 25 => 201 | 26 => 202 | 27 => 203 | 46 => 247 | 47 => 248 | 48 => 249 | 49 => 250 | 50 => 251 | 57 => 287 | n => n, fun | 22 => 87 | 24 => 90 | 25 => 168 | 3 => 3 | 39 => 118 | 0 => 0 | 53 => 279 | 55 => 122 | 4 => 4 | 46 => 303 | 45 => 302 | 50 => 94 | 5 => 5 | 9 => 9 | 66 => 352 | 70 => 152 | 76 => 386 | 77 => 179 | n => n, fun | n => n⟩
theorem Tryz.sortEnt : Go.Proofs.SlLaysF0.n6 Tryz.prog Tryz.sortEnt_ren := {
  mixed := by kernel_rfl
  f6 := ⟨Tryz.f105.name, by decide, Tryz.func105.trans (congrArg some (by kernel_rfl))⟩
  f14 := ⟨Tryz.f152.name, by decide, Tryz.func152.trans (congrArg some (by kernel_rfl))⟩
  f15 := Tryz.func153.trans (congrArg some (by kernel_rfl))
  f20 := ⟨Tryz.f196.name, by decide, Tryz.func196.trans (congrArg some (by kernel_rfl))⟩
  f21 := ⟨Tryz.f197.name, by decide, Tryz.func197.trans (congrArg some (by kernel_rfl))⟩
  f22 := ⟨Tryz.f198.name, by decide, Tryz.func198.trans (congrArg some (by kernel_rfl))⟩
  f23 := ⟨Tryz.f199.name, by decide, Tryz.func199.trans (congrArg some (by kernel_rfl))⟩
  f24 := ⟨Tryz.f200.name, by decide, Tryz.func200.trans (congrArg some (by kernel_rfl))⟩
  f25 := ⟨Tryz.f201.name, by decide, Tryz.func201.trans (congrArg some (by kernel_rfl))⟩
  f26 := ⟨Tryz.f202.name, by decide, Tryz.func202.trans (congrArg some (by kernel_rfl))⟩
  f27 := ⟨Tryz.f203.name, by decide, Tryz.func203.trans (congrArg some (by kernel_rfl))⟩
  f28 := Tryz.func204.trans (congrArg some (by kernel_rfl))
  f29 := Tryz.func205.trans (congrArg some (by kernel_rfl))
  f46 := ⟨Tryz.f247.name, by decide, Tryz.func247.trans (congrArg some (by kernel_rfl))⟩
  f47 := Tryz.func248.trans (congrArg some (by kernel_rfl))
  f48 := Tryz.func249.trans (congrArg some (by kernel_rfl))
  f49 := ⟨Tryz.f250.name, by decide, Tryz.func250.trans (congrArg some (by kernel_rfl))⟩
  f50 := ⟨Tryz.f251.name, by decide, Tryz.func251.trans (congrArg some (by kernel_rfl))⟩
  f57 := ⟨Tryz.f287.name, by decide, Tryz.func287.trans (congrArg some (by kernel_rfl))⟩
  t0 := Tryz.underlying0
  a0 := Tryz.isAgg0
  z0 := Tryz.sizeOf0
  v0 := Tryz.zeroValue0
  t3 := Tryz.underlying3
  a3 := Tryz.isAgg3
  z3 := Tryz.sizeOf3
  v3 := Tryz.zeroValue3
  t4 := Tryz.underlying4
  a4 := Tryz.isAgg4
  z4 := Tryz.sizeOf4
  v4 := Tryz.zeroValue4
  t5 := Tryz.underlying5
  a5 := Tryz.isAgg5
  z5 := Tryz.sizeOf5
  v5 := Tryz.zeroValue5
  t9 := Tryz.underlying9
  a9 := Tryz.isAgg9
  z9 := Tryz.sizeOf9
  v9 := Tryz.zeroValue9
  t22 := Tryz.underlying87
  a22 := Tryz.isAgg87
  z22 := Tryz.sizeOf87
  v22 := Tryz.zeroValue87
  t25 := Tryz.underlying168
  a25 := Tryz.isAgg168
  z25 := Tryz.sizeOf168
  v25 := Tryz.zeroValue168
  t39 := Tryz.underlying118
  a39 := Tryz.isAgg118
  z39 := Tryz.sizeOf118
  v39 := Tryz.zeroValue118
  t45 := Tryz.underlying302
  a45 := Tryz.isAgg302
  z45 := Tryz.sizeOf302
  v45 := Tryz.zeroValue302
  t46 := Tryz.underlying303
  a46 := Tryz.isAgg303
  z46 := Tryz.sizeOf303
  v46 := Tryz.zeroValue303
  t50 := Tryz.underlying94
  a50 := Tryz.isAgg94
  z50 := Tryz.sizeOf94
  v50 := Tryz.zeroValue94
  t53 := Tryz.underlying279
  a53 := Tryz.isAgg279
  z53 := Tryz.sizeOf279
  v53 := Tryz.zeroValue279
  t55 := Tryz.underlying122
  a55 := Tryz.isAgg122
  z55 := Tryz.sizeOf122
  v55 := Tryz.zeroValue122
  t66 := Tryz.underlying352
  a66 := Tryz.isAgg352
  z66 := Tryz.sizeOf352
  v66 := Tryz.zeroValue352
  t70 := Tryz.underlying152
  a70 := Tryz.isAgg152
  z70 := Tryz.sizeOf152
  v70 := Tryz.zeroValue152
  t76 := Tryz.underlying386
  a76 := Tryz.isAgg386
  z76 := Tryz.sizeOf386
  v76 := Tryz.zeroValue386
  t77 := Tryz.underlying179
  a77 := Tryz.isAgg179
  z77 := Tryz.sizeOf179
  v77 := Tryz.zeroValue179 }
end Go.Proofs
