import Derived.Shelf.Strings.Builder1
import Derived.Shelf.Small.Utf8
import Derived.Shelf.Small.Strs
import Derived.Shelf.Strings.BuilderF
import Derived.Shelf.Strings.BuilderK
import Derived.Shelf.Strconv.Atoi
import Derived.Shelf.Strconv.Itoa0
import Derived.Shelf.Strconv.Itoa1
import Derived.Shelf.LaysM
import Derived.Shelf.Strconv.Itoa2
import Derived.Shelf.Strconv.Itoa3
import Derived.Shelf.Strconv.AtoiErrFast
import Derived.Shelf.Strconv.ParseIntEmpty
import Derived.Shelf.Strconv.AtoiFail
import Derived.Shelf.Strconv.Clone
import Derived.Shelf.Strconv.SyntaxError
import Derived.Shelf.LaysC
import Derived.Shelf.Strconv.ToError
import Derived.Shelf.Strconv.Lower
import Derived.Shelf.Strconv.ParseUint10
import Derived.Shelf.Strconv.ParseUint10Empty
import Derived.Shelf.Strconv.ParseUint10Any
import Derived.Shelf.Strconv.ParseInt10
import Derived.Shelf.Strconv.AtoiLong
import Derived.Shelf.Strconv.AtoiInnerAll
import Derived.Shelf.Strconv.RangeError
import Derived.Shelf.Strconv.ToErrorRange
import Derived.Shelf.Strconv.AtoiAll
import Derived.Shelf.Strconv.ErrVarAll
import Derived.Shelf.Strings.Search1
import Derived.Shelf.Strings.Search2
import Derived.Shelf.Strings.Search3
import Derived.Shelf.Strings.Count
import Derived.Shelf.Strings.Shaped
import Derived.Shelf.GgClosure.StringsIndexFunc
import Derived.Ground.GgwProg
import Derived.Shelf.GgClosure.StringsIndexFuncTop
import Derived.Shelf.GgClosure.StringsRunes
import Derived.Shelf.Strings.Prefix
import Derived.Shelf.Strings.Split
import Derived.Shelf.Strings.Runes
import Derived.Shelf.Unicode.DecodeSlow
import Derived.Shelf.Unicode.DecodeAny
import Derived.Shelf.Strings.FuncGrows
import Derived.Shelf.Strings.BuilderCap
import Derived.Test.YtlfffpkfipdboaaDoorProg
import Derived.Test.YtlfffpkfipdboaaDoorFxCut
import Derived.Test.YtlfffpkfipdboaaDoorFxFin
import Derived.Test.YtlfffpkfipdboaaDoorRows
import Derived.Lib.LaidTab
import Derived.LaidMore
import Derived.MakeChecks
import Derived.Stop.LaidErr
import Derived.Stop.Joined
import Derived.Lay
import Derived.Test.YtlfffpkfipdboaaDoorFxRow
import Derived.Laws.Bits64
namespace Go.Proofs
open Go.Shelf
def Tryd.lays169_ren : Go.Shelf.Ren := ⟨fun | 169 => 28 | n => n, fun | 70 => 55 | 9 => 9 | 0 => 0 | 72 => 57 | 37 => 29 | 127 => 72 | 3 => 3 | 5 => 5 | n => n, fun | n => n⟩
theorem Tryd.lays169 : Go.Proofs.Lays.n169 Tryd.prog Tryd.lays169_ren := {
  mixed := by kernel_rfl
  f169 := Tryd.func28.trans (congrArg some (by kernel_rfl))
  t0 := Tryd.underlying0
  a0 := Tryd.isAgg0
  z0 := Tryd.sizeOf0
  v0 := Tryd.zeroValue0
  t3 := Tryd.underlying3
  a3 := Tryd.isAgg3
  z3 := Tryd.sizeOf3
  v3 := Tryd.zeroValue3
  t9 := Tryd.underlying9
  a9 := Tryd.isAgg9
  z9 := Tryd.sizeOf9
  v9 := Tryd.zeroValue9
  t37 := Tryd.underlying29
  a37 := Tryd.isAgg29
  z37 := Tryd.sizeOf29
  v37 := Tryd.zeroValue29
  t70 := Tryd.underlying55
  a70 := Tryd.isAgg55
  z70 := Tryd.sizeOf55
  v70 := Tryd.zeroValue55
  t72 := Tryd.underlying57
  a72 := Tryd.isAgg57
  z72 := Tryd.sizeOf57
  v72 := Tryd.zeroValue57
  t127 := Tryd.underlying72
  a127 := Tryd.isAgg72
  z127 := Tryd.sizeOf72
  v127 := Tryd.zeroValue72 }
theorem Tryd.Builder_Extra_169 : Builder.Extra Tryd.prog Tryd.lays169_ren := {
  sizeBuilder := by kernel_rfl
  liesBuilder := by kernel_rfl
  t5 := Tryd.underlying5
  a5 := Tryd.isAgg5
  z5 := Tryd.sizeOf5
  v5 := Tryd.zeroValue5
  infoByte := by kernel_rfl
  cellsByte := by kernel_rfl
  sizeByte := by kernel_rfl
  neB5 := by decide }
open Go.RowKit in
theorem Tryd.Builder_String_any (B b : Nat) (l : List UInt8) (w : World) (h : Lib.IsBuilder 57 5 B b (Lib.byteCells l) w) (hBw : B ≤ w.heap.size) :
    Calls Tryd.prog 28 #[.pointer (some ⟨b, 0, none⟩)] w fun e w' => e = .returned (.string ⟨l.toArray⟩) ∧ Below B w w' := Any.Builder_String_any Tryd.lays169 Tryd.Builder_Extra_169 B b l w h hBw
def Tryd.lays137_ren : Go.Shelf.Ren := ⟨fun | 137 => 55 | 217 => 65 | 266 => 78 | n => n, fun | 9 => 9 | 5 => 5 | 3 => 3 | n => n, fun | n => n⟩
theorem Tryd.lays137 : Go.Proofs.Lays.n137 Tryd.prog Tryd.lays137_ren := {
  mixed := by kernel_rfl
  f137 := Tryd.func55.trans (congrArg some (by kernel_rfl))
  f217 := Tryd.func65.trans (congrArg some (by kernel_rfl))
  f266 := Tryd.func78.trans (congrArg some (by kernel_rfl))
  t3 := Tryd.underlying3
  a3 := Tryd.isAgg3
  z3 := Tryd.sizeOf3
  v3 := Tryd.zeroValue3
  t5 := Tryd.underlying5
  a5 := Tryd.isAgg5
  z5 := Tryd.sizeOf5
  v5 := Tryd.zeroValue5
  t9 := Tryd.underlying9
  a9 := Tryd.isAgg9
  z9 := Tryd.sizeOf9
  v9 := Tryd.zeroValue9 }
open Go.RowKit in
theorem Tryd.strings_IndexByte (s : ByteArray) (c : Int) (w : World) :
    Calls Tryd.prog 55 #[.string s, .int .u8 c] w fun e w' => e = .returned (.int .i64 (Lib.indexByte s.data.toList c.toNat.toUInt8)) ∧ w' = w := Any.strings_IndexByte Tryd.lays137 s c w
def Tryd.laysM171_ren : Go.Shelf.Ren := ⟨fun | 171 => 36 | 243 => 48 | 246 => 63 | 283 => 74 | 284 => 75 | 285 => 76 | 286 => 77 | 129 => 84 | 317 => 83 | 318 => 85 | 319 => 86 | 320 => 87 | 337 => 90 | 338 => 91 | n => n, fun | 3 => 3 | 9 => 9 | 2 => 2 | 4 => 4 | 171 => 96 | 0 => 0 | 53 => 97 | 37 => 29 | 5 => 5 | 173 => 100 | 212 => 116 | 51 => 106 | 20 => 20 | 213 => 117 | 46 => 70 | 232 => 124 | 233 => 125 | n => n, fun | 17 => 5 | 18 => 6 | 19 => 7 | n => n⟩
theorem Tryd.laysM171 : Go.Proofs.LaysM.n171 Tryd.prog Tryd.laysM171_ren := {
  mixed := by kernel_rfl
  f129 := Tryd.func84.trans (congrArg some (by kernel_rfl))
  f171 := Tryd.func36.trans (congrArg some (by kernel_rfl))
  f243 := Tryd.func48.trans (congrArg some (by kernel_rfl))
  f246 := Tryd.func63.trans (congrArg some (by kernel_rfl))
  f283 := Tryd.func74.trans (congrArg some (by kernel_rfl))
  f284 := Tryd.func75.trans (congrArg some (by kernel_rfl))
  f285 := Tryd.func76.trans (congrArg some (by kernel_rfl))
  f286 := Tryd.func77.trans (congrArg some (by kernel_rfl))
  f317 := Tryd.func83.trans (congrArg some (by kernel_rfl))
  f318 := Tryd.func85.trans (congrArg some (by kernel_rfl))
  f319 := Tryd.func86.trans (congrArg some (by kernel_rfl))
  f320 := Tryd.func87.trans (congrArg some (by kernel_rfl))
  f337 := Tryd.func90.trans (congrArg some (by kernel_rfl))
  f338 := Tryd.func91.trans (congrArg some (by kernel_rfl))
  t0 := Tryd.underlying0
  a0 := Tryd.isAgg0
  z0 := Tryd.sizeOf0
  v0 := Tryd.zeroValue0
  t2 := Tryd.underlying2
  a2 := Tryd.isAgg2
  z2 := Tryd.sizeOf2
  v2 := Tryd.zeroValue2
  t3 := Tryd.underlying3
  a3 := Tryd.isAgg3
  z3 := Tryd.sizeOf3
  v3 := Tryd.zeroValue3
  t4 := Tryd.underlying4
  a4 := Tryd.isAgg4
  z4 := Tryd.sizeOf4
  v4 := Tryd.zeroValue4
  t5 := Tryd.underlying5
  a5 := Tryd.isAgg5
  z5 := Tryd.sizeOf5
  v5 := Tryd.zeroValue5
  t9 := Tryd.underlying9
  a9 := Tryd.isAgg9
  z9 := Tryd.sizeOf9
  v9 := Tryd.zeroValue9
  t20 := Tryd.underlying20
  a20 := Tryd.isAgg20
  z20 := Tryd.sizeOf20
  v20 := Tryd.zeroValue20
  t37 := Tryd.underlying29
  a37 := Tryd.isAgg29
  z37 := Tryd.sizeOf29
  v37 := Tryd.zeroValue29
  t46 := Tryd.underlying70
  a46 := Tryd.isAgg70
  z46 := Tryd.sizeOf70
  v46 := Tryd.zeroValue70
  t51 := Tryd.underlying106
  a51 := Tryd.isAgg106
  z51 := Tryd.sizeOf106
  v51 := Tryd.zeroValue106
  t53 := Tryd.underlying97
  a53 := Tryd.isAgg97
  z53 := Tryd.sizeOf97
  v53 := Tryd.zeroValue97
  t171 := Tryd.underlying96
  a171 := Tryd.isAgg96
  z171 := Tryd.sizeOf96
  v171 := Tryd.zeroValue96
  t173 := Tryd.underlying100
  a173 := Tryd.isAgg100
  z173 := Tryd.sizeOf100
  v173 := Tryd.zeroValue100
  t212 := Tryd.underlying116
  a212 := Tryd.isAgg116
  z212 := Tryd.sizeOf116
  v212 := Tryd.zeroValue116
  t213 := Tryd.underlying117
  a213 := Tryd.isAgg117
  z213 := Tryd.sizeOf117
  t232 := Tryd.underlying124
  a232 := Tryd.isAgg124
  z232 := Tryd.sizeOf124
  v232 := Tryd.zeroValue124
  t233 := Tryd.underlying125
  a233 := Tryd.isAgg125
  z233 := Tryd.sizeOf125
  v233 := Tryd.zeroValue125
  g17 := by kernel_rfl
  g18 := by kernel_rfl
  g19 := by kernel_rfl
  i0 := by kernel_rfl
  i2 := by kernel_rfl
  i3 := by kernel_rfl
  i4 := by kernel_rfl
  i5 := by kernel_rfl
  i9 := by kernel_rfl
  i20 := by kernel_rfl
  i37 := by kernel_rfl
  i46 := by kernel_rfl
  i51 := by kernel_rfl
  i53 := by kernel_rfl
  i171 := by kernel_rfl
  i173 := by kernel_rfl
  i212 := by kernel_rfl
  i232 := by kernel_rfl
  i233 := by kernel_rfl
  m17 := by kernel_rfl
  m18 := by kernel_rfl
  m19 := by kernel_rfl }
open Go.RowKit Go.Sort Go.Lib in
theorem Tryd.strconv_Itoa (n : Int) (h0 : -9223372036854775808 ≤ n) (h1 : n ≤ 9223372036854775807) (w : World) (htab : Lib.TabIs Tryd.prog w "internal/strconv.uint64pow10" .u64 Lib.pow10Tab) :
    Calls Tryd.prog 36 #[.int .i64 n] w fun e w' => e = .returned (.string ⟨(Lib.itoa n).toArray⟩) ∧ ∃ k os, w' = grow (w.drewN k) os := Any.strconv_Itoa Tryd.laysM171 n h0 h1 w htab
def Tryd.laysC172_ren : Go.Shelf.Ren := ⟨fun | 172 => 47 | 244 => 61 | 245 => 62 | 247 => 69 | 279 => 70 | 280 => 71 | 281 => 72 | 282 => 73 | 287 => 80 | 316 => 81 | 171 => 36 | 205 => 82 | 321 => 88 | 322 => 89 | 243 => 48 | 246 => 63 | 283 => 74 | 284 => 75 | 285 => 76 | 286 => 77 | 129 => 84 | 317 => 83 | 318 => 85 | 319 => 86 | 320 => 87 | 337 => 90 | 338 => 91 | n => n, fun | 9 => 9 | 3 => 3 | 75 => 59 | 76 => 60 | 4 => 4 | 5 => 5 | 167 => 90 | 37 => 29 | 0 => 0 | 85 => 91 | 2 => 2 | 168 => 93 | 53 => 97 | 175 => 109 | 46 => 70 | 210 => 113 | 127 => 72 | 145 => 122 | 143 => 120 | 21 => 21 | 171 => 96 | 173 => 100 | 212 => 116 | 51 => 106 | 20 => 20 | 213 => 117 | 232 => 124 | 233 => 125 | 80 => 63 | n => n, fun | 15 => 3 | 16 => 4 | 17 => 5 | 18 => 6 | 19 => 7 | n => n⟩
theorem Tryd.laysC172 : Go.Proofs.LaysC.n172 Tryd.prog Tryd.laysC172_ren := {
  mixed := by kernel_rfl
  f129 := Tryd.func84.trans (congrArg some (by kernel_rfl))
  f171 := Tryd.func36.trans (congrArg some (by kernel_rfl))
  f172 := Tryd.func47.trans (congrArg some (by kernel_rfl))
  f205 := Tryd.func82.trans (congrArg some (by kernel_rfl))
  f243 := Tryd.func48.trans (congrArg some (by kernel_rfl))
  f244 := Tryd.func61.trans (congrArg some (by kernel_rfl))
  f245 := Tryd.func62.trans (congrArg some (by kernel_rfl))
  f246 := Tryd.func63.trans (congrArg some (by kernel_rfl))
  f247 := Tryd.func69.trans (congrArg some (by kernel_rfl))
  f279 := Tryd.func70.trans (congrArg some (by kernel_rfl))
  f280 := Tryd.func71.trans (congrArg some (by kernel_rfl))
  f281 := Tryd.func72.trans (congrArg some (by kernel_rfl))
  f282 := Tryd.func73.trans (congrArg some (by kernel_rfl))
  f283 := Tryd.func74.trans (congrArg some (by kernel_rfl))
  f284 := Tryd.func75.trans (congrArg some (by kernel_rfl))
  f285 := Tryd.func76.trans (congrArg some (by kernel_rfl))
  f286 := Tryd.func77.trans (congrArg some (by kernel_rfl))
  f287 := Tryd.func80.trans (congrArg some (by kernel_rfl))
  f316 := Tryd.func81.trans (congrArg some (by kernel_rfl))
  f317 := Tryd.func83.trans (congrArg some (by kernel_rfl))
  f318 := Tryd.func85.trans (congrArg some (by kernel_rfl))
  f319 := Tryd.func86.trans (congrArg some (by kernel_rfl))
  f320 := Tryd.func87.trans (congrArg some (by kernel_rfl))
  f321 := Tryd.func88.trans (congrArg some (by kernel_rfl))
  f322 := Tryd.func89.trans (congrArg some (by kernel_rfl))
  f337 := Tryd.func90.trans (congrArg some (by kernel_rfl))
  f338 := Tryd.func91.trans (congrArg some (by kernel_rfl))
  t0 := Tryd.underlying0
  a0 := Tryd.isAgg0
  z0 := Tryd.sizeOf0
  v0 := Tryd.zeroValue0
  t2 := Tryd.underlying2
  a2 := Tryd.isAgg2
  z2 := Tryd.sizeOf2
  v2 := Tryd.zeroValue2
  t3 := Tryd.underlying3
  a3 := Tryd.isAgg3
  z3 := Tryd.sizeOf3
  v3 := Tryd.zeroValue3
  t4 := Tryd.underlying4
  a4 := Tryd.isAgg4
  z4 := Tryd.sizeOf4
  v4 := Tryd.zeroValue4
  t5 := Tryd.underlying5
  a5 := Tryd.isAgg5
  z5 := Tryd.sizeOf5
  v5 := Tryd.zeroValue5
  t9 := Tryd.underlying9
  a9 := Tryd.isAgg9
  z9 := Tryd.sizeOf9
  v9 := Tryd.zeroValue9
  t20 := Tryd.underlying20
  a20 := Tryd.isAgg20
  z20 := Tryd.sizeOf20
  v20 := Tryd.zeroValue20
  t21 := Tryd.underlying21
  a21 := Tryd.isAgg21
  z21 := Tryd.sizeOf21
  v21 := Tryd.zeroValue21
  t37 := Tryd.underlying29
  a37 := Tryd.isAgg29
  z37 := Tryd.sizeOf29
  v37 := Tryd.zeroValue29
  t46 := Tryd.underlying70
  a46 := Tryd.isAgg70
  z46 := Tryd.sizeOf70
  v46 := Tryd.zeroValue70
  t51 := Tryd.underlying106
  a51 := Tryd.isAgg106
  z51 := Tryd.sizeOf106
  v51 := Tryd.zeroValue106
  t53 := Tryd.underlying97
  a53 := Tryd.isAgg97
  z53 := Tryd.sizeOf97
  v53 := Tryd.zeroValue97
  t75 := Tryd.underlying59
  a75 := Tryd.isAgg59
  z75 := Tryd.sizeOf59
  v75 := Tryd.zeroValue59
  t76 := Tryd.underlying60
  a76 := Tryd.isAgg60
  z76 := Tryd.sizeOf60
  v76 := Tryd.zeroValue60
  t85 := Tryd.underlying91
  a85 := Tryd.isAgg91
  z85 := Tryd.sizeOf91
  v85 := Tryd.zeroValue91
  t127 := Tryd.underlying72
  a127 := Tryd.isAgg72
  z127 := Tryd.sizeOf72
  v127 := Tryd.zeroValue72
  t143 := Tryd.underlying120
  a143 := Tryd.isAgg120
  z143 := Tryd.sizeOf120
  v143 := Tryd.zeroValue120
  t145 := Tryd.underlying122
  a145 := Tryd.isAgg122
  z145 := Tryd.sizeOf122
  v145 := Tryd.zeroValue122
  t167 := Tryd.underlying90
  a167 := Tryd.isAgg90
  z167 := Tryd.sizeOf90
  v167 := Tryd.zeroValue90
  t168 := Tryd.underlying93
  a168 := Tryd.isAgg93
  z168 := Tryd.sizeOf93
  v168 := Tryd.zeroValue93
  t171 := Tryd.underlying96
  a171 := Tryd.isAgg96
  z171 := Tryd.sizeOf96
  v171 := Tryd.zeroValue96
  t173 := Tryd.underlying100
  a173 := Tryd.isAgg100
  z173 := Tryd.sizeOf100
  v173 := Tryd.zeroValue100
  t175 := Tryd.underlying109
  a175 := Tryd.isAgg109
  z175 := Tryd.sizeOf109
  v175 := Tryd.zeroValue109
  t210 := Tryd.underlying113
  a210 := Tryd.isAgg113
  z210 := Tryd.sizeOf113
  v210 := Tryd.zeroValue113
  t212 := Tryd.underlying116
  a212 := Tryd.isAgg116
  z212 := Tryd.sizeOf116
  v212 := Tryd.zeroValue116
  t213 := Tryd.underlying117
  a213 := Tryd.isAgg117
  z213 := Tryd.sizeOf117
  t232 := Tryd.underlying124
  a232 := Tryd.isAgg124
  z232 := Tryd.sizeOf124
  v232 := Tryd.zeroValue124
  t233 := Tryd.underlying125
  a233 := Tryd.isAgg125
  z233 := Tryd.sizeOf125
  v233 := Tryd.zeroValue125
  g15 := by kernel_rfl
  g16 := by kernel_rfl
  g17 := by kernel_rfl
  g18 := by kernel_rfl
  g19 := by kernel_rfl
  t80 := Tryd.underlying63
  a80 := Tryd.isAgg63
  z80 := Tryd.sizeOf63
  v80 := Tryd.zeroValue63
  i0 := by kernel_rfl
  i2 := by kernel_rfl
  i3 := by kernel_rfl
  i4 := by kernel_rfl
  i5 := by kernel_rfl
  i9 := by kernel_rfl
  i20 := by kernel_rfl
  i21 := by kernel_rfl
  i37 := by kernel_rfl
  i46 := by kernel_rfl
  i51 := by kernel_rfl
  i53 := by kernel_rfl
  i75 := by kernel_rfl
  i76 := by kernel_rfl
  i80 := by kernel_rfl
  i85 := by kernel_rfl
  i127 := by kernel_rfl
  i143 := by kernel_rfl
  i145 := by kernel_rfl
  i167 := by kernel_rfl
  i168 := by kernel_rfl
  i171 := by kernel_rfl
  i173 := by kernel_rfl
  i175 := by kernel_rfl
  i210 := by kernel_rfl
  i212 := by kernel_rfl
  i232 := by kernel_rfl
  i233 := by kernel_rfl
  m15 := by kernel_rfl
  m16 := by kernel_rfl
  m17 := by kernel_rfl
  m18 := by kernel_rfl
  m19 := by kernel_rfl
  c0 := by kernel_rfl
  c2 := by kernel_rfl
  c3 := by kernel_rfl
  c4 := by kernel_rfl
  c5 := by kernel_rfl
  c9 := by kernel_rfl
  c20 := by kernel_rfl
  c21 := by kernel_rfl
  c37 := by kernel_rfl
  c46 := by kernel_rfl
  c51 := by kernel_rfl
  c53 := by kernel_rfl
  c75 := by kernel_rfl
  c76 := by kernel_rfl
  c80 := by kernel_rfl
  c85 := by kernel_rfl
  c127 := by kernel_rfl
  c143 := by kernel_rfl
  c145 := by kernel_rfl
  c167 := by kernel_rfl
  c168 := by kernel_rfl
  c171 := by kernel_rfl
  c173 := by kernel_rfl
  c175 := by kernel_rfl
  c210 := by kernel_rfl
  c212 := by kernel_rfl
  c213 := by kernel_rfl
  c232 := by kernel_rfl
  c233 := by kernel_rfl }
open Go.RowKit in
theorem Tryd.strconv_Atoi_ok (s : ByteArray) (hmax : s.size ≤ 9223372036854775806) (v : Int) (h : Lib.atoiAll s.data.toList = .ok v) (w : World) :
    Calls Tryd.prog 47 #[.string s] w fun e w' => e = .returned (.tuple #[.int .i64 v, .nilIface]) ∧ (w' = w ∨ ∃ t, w' = Lib.bytesWorld w 5 t) := Any.strconv_Atoi_ok Tryd.laysC172 s hmax v h w
def Tryd.lays143_ren : Go.Shelf.Ren := ⟨fun | 143 => 42 | 219 => 54 | 217 => 65 | 225 => 58 | 224 => 57 | 267 => 66 | 266 => 78 | 314 => 79 | n => n, fun | 9 => 9 | 3 => 3 | 4 => 4 | 5 => 5 | 46 => 70 | 146 => 107 | 51 => 106 | n => n, fun | 1 => 0 | n => n⟩
theorem Tryd.lays143 : Go.Proofs.Lays.n143 Tryd.prog Tryd.lays143_ren := {
  mixed := by kernel_rfl
  f143 := Tryd.func42.trans (congrArg some (by kernel_rfl))
  f217 := Tryd.func65.trans (congrArg some (by kernel_rfl))
  f219 := Tryd.func54.trans (congrArg some (by kernel_rfl))
  f224 := Tryd.func57.trans (congrArg some (by kernel_rfl))
  f225 := Tryd.func58.trans (congrArg some (by kernel_rfl))
  f266 := Tryd.func78.trans (congrArg some (by kernel_rfl))
  f267 := Tryd.func66.trans (congrArg some (by kernel_rfl))
  f314 := Tryd.func79.trans (congrArg some (by kernel_rfl))
  t3 := Tryd.underlying3
  a3 := Tryd.isAgg3
  z3 := Tryd.sizeOf3
  v3 := Tryd.zeroValue3
  t4 := Tryd.underlying4
  a4 := Tryd.isAgg4
  z4 := Tryd.sizeOf4
  v4 := Tryd.zeroValue4
  t5 := Tryd.underlying5
  a5 := Tryd.isAgg5
  z5 := Tryd.sizeOf5
  v5 := Tryd.zeroValue5
  t9 := Tryd.underlying9
  a9 := Tryd.isAgg9
  z9 := Tryd.sizeOf9
  v9 := Tryd.zeroValue9
  t46 := Tryd.underlying70
  a46 := Tryd.isAgg70
  z46 := Tryd.sizeOf70
  v46 := Tryd.zeroValue70
  t51 := Tryd.underlying106
  a51 := Tryd.isAgg106
  z51 := Tryd.sizeOf106
  v51 := Tryd.zeroValue106
  t146 := Tryd.underlying107
  a146 := Tryd.isAgg107
  z146 := Tryd.sizeOf107
  v146 := Tryd.zeroValue107
  g1 := by kernel_rfl }
open Go.RowKit Go.Lib in
theorem Tryd.strings_Index_one (s : ByteArray) (c : UInt8) (w : World) :
    Calls Tryd.prog 42 #[.string s, .string ⟨#[c]⟩] w fun e w' => e = .returned (.int .i64 (Lib.indexByte s.data.toList c)) ∧ w' = w := Any.strings_Index_one Tryd.lays143 s c w
def Tryd.lays138_ren : Go.Shelf.Ren := ⟨fun | 138 => 41 | 195 => 51 | 218 => 53 | 143 => 42 | 219 => 54 | 217 => 65 | 225 => 58 | 224 => 57 | 267 => 66 | 266 => 78 | 314 => 79 | n => n, fun | 9 => 9 | 3 => 3 | 4 => 4 | 5 => 5 | 0 => 0 | 46 => 70 | 146 => 107 | 51 => 106 | n => n, fun | 1 => 0 | n => n⟩
theorem Tryd.lays138 : Go.Proofs.Lays.n138 Tryd.prog Tryd.lays138_ren := {
  mixed := by kernel_rfl
  f138 := Tryd.func41.trans (congrArg some (by kernel_rfl))
  f143 := Tryd.func42.trans (congrArg some (by kernel_rfl))
  f195 := Tryd.func51.trans (congrArg some (by kernel_rfl))
  f217 := Tryd.func65.trans (congrArg some (by kernel_rfl))
  f218 := Tryd.func53.trans (congrArg some (by kernel_rfl))
  f219 := Tryd.func54.trans (congrArg some (by kernel_rfl))
  f224 := Tryd.func57.trans (congrArg some (by kernel_rfl))
  f225 := Tryd.func58.trans (congrArg some (by kernel_rfl))
  f266 := Tryd.func78.trans (congrArg some (by kernel_rfl))
  f267 := Tryd.func66.trans (congrArg some (by kernel_rfl))
  f314 := Tryd.func79.trans (congrArg some (by kernel_rfl))
  t0 := Tryd.underlying0
  a0 := Tryd.isAgg0
  z0 := Tryd.sizeOf0
  v0 := Tryd.zeroValue0
  t3 := Tryd.underlying3
  a3 := Tryd.isAgg3
  z3 := Tryd.sizeOf3
  v3 := Tryd.zeroValue3
  t4 := Tryd.underlying4
  a4 := Tryd.isAgg4
  z4 := Tryd.sizeOf4
  v4 := Tryd.zeroValue4
  t5 := Tryd.underlying5
  a5 := Tryd.isAgg5
  z5 := Tryd.sizeOf5
  v5 := Tryd.zeroValue5
  t9 := Tryd.underlying9
  a9 := Tryd.isAgg9
  z9 := Tryd.sizeOf9
  v9 := Tryd.zeroValue9
  t46 := Tryd.underlying70
  a46 := Tryd.isAgg70
  z46 := Tryd.sizeOf70
  v46 := Tryd.zeroValue70
  t51 := Tryd.underlying106
  a51 := Tryd.isAgg106
  z51 := Tryd.sizeOf106
  v51 := Tryd.zeroValue106
  t146 := Tryd.underlying107
  a146 := Tryd.isAgg107
  z146 := Tryd.sizeOf107
  v146 := Tryd.zeroValue107
  g1 := by kernel_rfl }
open Go.RowKit Go.Lib in
theorem Tryd.strings_Count_one (s : ByteArray) (c : UInt8) (w : World) :
    Calls Tryd.prog 41 #[.string s, .string ⟨#[c]⟩] w fun e w' => e = .returned (.int .i64 (Lib.countByte s.data.toList c)) ∧ w' = w := Any.strings_Count_one Tryd.lays138 s c w
end Go.Proofs
set_option linter.unusedVariables false
namespace Go.Proofs
open Go Go.Fx
def bytesI (l : List UInt8) : List Int := l.map fun b => (b.toNat : Int)
theorem tab_is {P : Program} {G : Glob} {g : Nat} {name : String} {k : IntKind} {zs : List Int} (hn : P.globalNamed name = some g) (hg : G g = some (.iref k zs 0)) :
    ∀ (w : World) (h : Heap), h ≤ full w → GlobOk G h → Lib.TabIs P w name k zs := fun w h hs hG => by
  obtain ⟨⟨b, o, hp, hc⟩, c, ty, fz, h1, h2⟩ := hG g _ hg
  simp only [Value.pointer.injEq, Option.some.injEq, Addr.mk.injEq, Nat.add_zero, and_true] at hp
  obtain ⟨rfl, rfl⟩ := hp
  have hw : w.heap[g]? = some (.cells c ty fz) := hs _ _ h1
  unfold Lib.TabIs World.var?
  rw [hn]
  simp only [Option.bind_some, hw, Option.some.injEq]
  apply Array.ext
  · simp [h2]
  · intro j hj1 hj2
    have hz : j < zs.length := by omega
    obtain ⟨c', ty', fz', g1, g2⟩ := hc j (.int k zs[j]) (by rw [List.getElem?_map, List.getElem?_eq_getElem hz]; rfl)
    rw [h1] at g1
    cases g1
    rw [Nat.zero_add, Array.getElem?_eq_getElem hj1, Option.some.injEq] at g2
    rw [g2]; simp
theorem fn_Itoa {G : Glob} (hG : ∀ (w : World) (h : Heap), h ≤ full w → GlobOk G h → Lib.TabIs Tryd.prog w "internal/strconv.uint64pow10" .u64 Lib.pow10Tab) (n : Int) (h0 : -9223372036854775808 ≤ n) (h1 : n ≤ 9223372036854775807) :
    FunEq Tryd.prog G 36 [.int .i64 n] (.str (bytesI (Lib.itoa n))) := by
  refine ⟨by kernel_rfl, fun w h vs hs hg hv => ?_⟩
  obtain ⟨v, vs', rfl, hv0, rfl⟩ := hv
  have hv0 : v = .int .i64 n := hv0
  subst hv0
  refine (Tryd.strconv_Itoa n h0 h1 w (hG w h hs hg)).mono fun e w' ⟨he, k, os, hw⟩ => ⟨_, he, ⟨_, rfl, rfl⟩, ?_, ?_, ?_⟩
  all_goals subst hw
  · show w.heap.size ≤ (w.heap ++ os).size; rw [Array.size_append]; omega
  · intro b hb; show (w.heap ++ os)[b]? = _; rw [Array.getElem?_append_left hb]
  · exact ⟨rfl, rfl⟩
theorem strBytes_of {s : ByteArray} {l : List Int} (h : l = s.data.toList.map fun b => (b.toNat : Int)) : s.data.toList = strBytes l := by
  subst h
  simp only [strBytes, List.map_map]
  conv => lhs; rw [← List.map_id s.data.toList]
  apply List.map_congr_left
  intro b _
  simp
theorem size_of {s : ByteArray} {l : List Int} (h : l = s.data.toList.map fun b => (b.toNat : Int)) : s.size = l.length := by
  have e : l.length = s.data.toList.length := by rw [h, List.length_map]
  rw [e, Array.length_toList]; rfl
def atoiV (l : List Int) : Option Int := match Lib.atoiAll (strBytes l) with
  | .ok v => some v
  | _ => none
theorem left_bytes (w : World) (e : TypeId) (s : ByteArray) : w.heap.size ≤ (Lib.bytesWorld w e s).heap.size ∧ (∀ b : Nat, b < w.heap.size → (Lib.bytesWorld w e s).heap[b]? = w.heap[b]?) ∧ Out w (Lib.bytesWorld w e s) := by
  unfold Lib.bytesWorld World.freeze
  rw [if_neg (by decide)]
  refine ⟨?_, fun b hb => ?_, rfl, rfl⟩
  · show w.heap.size ≤ ((w.heap.push _).modify w.heap.size _).size
    rw [Array.size_modify, Array.size_push]; omega
  · show ((w.heap.push _).modify w.heap.size _)[b]? = _
    rw [Array.getElem?_modify, if_neg (Ne.symm (Nat.ne_of_lt hb)), Array.getElem?_push, if_neg (Nat.ne_of_lt hb)]
theorem fn_Atoi {G : Glob} {l : List Int} (h : (atoiV l).isSome = true ∧ l.length ≤ 1000) : FunEq Tryd.prog G 47 [.str l] (.tup [.int .i64 ((atoiV l).getD 0), .nilIface]) := by
  refine ⟨by kernel_rfl, fun w hh vs hs hg hv => ?_⟩
  obtain ⟨v, vs', rfl, ⟨s, rfl, hl⟩, rfl⟩ := hv
  have hb := strBytes_of hl
  have hz := size_of hl
  obtain ⟨h, hlen⟩ := h
  unfold atoiV at h ⊢
  split at h
  · rename_i n e
    refine (Tryd.strconv_Atoi_ok s (by omega) n (by rw [hb]; exact e) w).mono fun e w' ⟨he, hw⟩ => ⟨_, he, ⟨_, rfl, _, _, rfl, rfl, _, _, rfl, rfl, rfl⟩, ?_⟩
    rcases hw with rfl | ⟨t, rfl⟩
    · exact ⟨Nat.le_refl _, fun _ _ => rfl, rfl, rfl⟩
    · exact left_bytes w 5 t
  · cases h
theorem same_world {P : Program} {G : Glob} {f : FuncId} {args : List PV} {r : PV} (hok : calleeOk P f = true) (h : ∀ (w : World) (h : Heap) (vs : List Value), PV.relL h args vs → ∃ v, r.rel h v ∧ Calls P f vs.toArray w fun e w' => e = .returned v ∧ w' = w) : FunEq P G f args r :=
  ⟨hok, fun w hh vs hs hg hv => by
    obtain ⟨v, h1, h2⟩ := h w hh vs hv
    refine h2.mono fun e w' ⟨he, hw⟩ => ?_
    subst hw
    exact ⟨v, he, PV.rel_mono (le_grow hs w') _ _ h1, Nat.le_refl _, fun _ _ => rfl, rfl, rfl⟩⟩
theorem one_byte {s : ByteArray} {l : List Int} (h : l = s.data.toList.map fun b => (b.toNat : Int)) (h1 : l.length = 1) : s = ⟨#[(strBytes l).headD 0]⟩ := by
  have hb := strBytes_of h
  have : (strBytes l).length = 1 := by simp [strBytes, h1]
  obtain ⟨c, hc⟩ := List.length_eq_one_iff.1 this
  rw [hc] at hb ⊢
  cases s with
  | mk d =>
    simp only at hb
    congr 1
    apply Array.ext'
    rw [hb]; rfl
theorem fn_Index {G : Glob} {l p : List Int} (h : p.length = 1) : FunEq Tryd.prog G 42 [.str l, .str p] (.int .i64 (Lib.indexByte (strBytes l) ((strBytes p).headD 0))) :=
  same_world (by kernel_rfl) fun w hh vs hv => by
    obtain ⟨v, vs', rfl, ⟨s, rfl, hl⟩, v2, vs2, rfl, ⟨t, rfl, hp⟩, rfl⟩ := hv
    rw [one_byte hp h, ← strBytes_of hl]
    exact ⟨_, rfl, Tryd.strings_Index_one s _ w⟩
theorem fn_Count {G : Glob} {l p : List Int} (h : p.length = 1) : FunEq Tryd.prog G 41 [.str l, .str p] (.int .i64 (Lib.countByte (strBytes l) ((strBytes p).headD 0))) :=
  same_world (by kernel_rfl) fun w hh vs hv => by
    obtain ⟨v, vs', rfl, ⟨s, rfl, hl⟩, v2, vs2, rfl, ⟨t, rfl, hp⟩, rfl⟩ := hv
    rw [one_byte hp h, ← strBytes_of hl]
    exact ⟨_, rfl, Tryd.strings_Count_one s _ w⟩
theorem fn_IndexByte {G : Glob} {l : List Int} {c : Int} : FunEq Tryd.prog G 55 [.str l, .int .u8 c] (.int .i64 (Lib.indexByte (strBytes l) c.toNat.toUInt8)) :=
  same_world (by kernel_rfl) fun w hh vs hv => by
    obtain ⟨v, vs', rfl, ⟨s, rfl, hl⟩, v2, vs2, rfl, hp, rfl⟩ := hv
    have hp : v2 = .int .u8 c := hp
    subst hp
    rw [← strBytes_of hl]
    exact ⟨_, rfl, Tryd.strings_IndexByte s _ w⟩
end Go.Proofs
set_option linter.unusedVariables false
set_option linter.unusedSimpArgs false
set_option maxRecDepth 100000
namespace Go.Proofs
open Go Go.Fx
def GG : Glob := fun g => match g with | 5 => some (.iref .u64 Lib.pow10Tab 0) | _ => none
theorem hG5 : ∀ (w : World) (h : Heap), h ≤ full w → GlobOk GG h → Lib.TabIs Tryd.prog w "internal/strconv.uint64pow10" .u64 Lib.pow10Tab := tab_is (g := 5) (by kernel_rfl) rfl
open Classical in
noncomputable def go_strconv_Itoa (n : Int) : Option (List Int) := if -9223372036854775808 ≤ n ∧ n ≤ 9223372036854775807 then some (bytesI (Lib.itoa n)) else none
def em_strconv_Itoa (r : (List Int)) : PV := (.str r)
def as_strconv_Itoa : List Shp := [(.int .i64)]
noncomputable def ga_strconv_Itoa (vs : List PV) : Option (List Int) := go_strconv_Itoa ((tls 0 vs).headD .nilSl).num
theorem fe_strconv_Itoa (n : Int) (r : (List Int)) (hr : go_strconv_Itoa n = some r) : FunEq Tryd.prog GG 36 [(.int .i64 n)] (em_strconv_Itoa r) := by
  unfold go_strconv_Itoa at hr
  split at hr
  · rename_i h
    cases hr
    exact fn_Itoa hG5 n h.1 h.2
  · cases hr
theorem at_strconv_Itoa : FnAt Tryd.prog GG 36 as_strconv_Itoa ga_strconv_Itoa em_strconv_Itoa := fun vs h r hr => by
  have e : Shp.buildL as_strconv_Itoa vs = [(.int .i64 ((tls 0 vs).headD .nilSl).num)] := by kernel_rfl
  rw [← Shp.buildL_eq _ h, e]
  exact .inl ⟨by decide, fe_strconv_Itoa _ r hr⟩
open Classical in
noncomputable def go_strconv_Atoi (x : List Int) : Option Int := if (atoiV x).isSome = true ∧ x.length ≤ 1000 then some ((atoiV x).getD 0) else none
def em_strconv_Atoi (r : Int) : PV := (.tup [(.int .i64 r), .nilIface])
def as_strconv_Atoi : List Shp := [.str]
noncomputable def ga_strconv_Atoi (vs : List PV) : Option Int := go_strconv_Atoi ((tls 0 vs).headD .nilSl).chars
theorem fe_strconv_Atoi (x : List Int) (r : Int) (hr : go_strconv_Atoi x = some r) : FunEq Tryd.prog GG 47 [(.str x)] (em_strconv_Atoi r) := by
  unfold go_strconv_Atoi at hr
  split at hr
  · rename_i h
    cases hr
    exact fn_Atoi h
  · cases hr
theorem at_strconv_Atoi : FnAt Tryd.prog GG 47 as_strconv_Atoi ga_strconv_Atoi em_strconv_Atoi := fun vs h r hr => by
  have e : Shp.buildL as_strconv_Atoi vs = [(.str ((tls 0 vs).headD .nilSl).chars)] := by kernel_rfl
  rw [← Shp.buildL_eq _ h, e]
  exact .inl ⟨by decide, fe_strconv_Atoi _ r hr⟩
open Classical in
noncomputable def go_strings_Index (x : List Int) (p : List Int) : Option Int := if p.length = 1 then some (Lib.indexByte (strBytes x) ((strBytes p).headD 0)) else none
def em_strings_Index (r : Int) : PV := (.int .i64 r)
def as_strings_Index : List Shp := [.str, .str]
noncomputable def ga_strings_Index (vs : List PV) : Option Int := go_strings_Index ((tls 0 vs).headD .nilSl).chars ((tls 1 vs).headD .nilSl).chars
theorem fe_strings_Index (x : List Int) (p : List Int) (r : Int) (hr : go_strings_Index x p = some r) : FunEq Tryd.prog GG 42 [(.str x), (.str p)] (em_strings_Index r) := by
  unfold go_strings_Index at hr
  split at hr
  · rename_i h
    cases hr
    exact fn_Index h
  · cases hr
theorem at_strings_Index : FnAt Tryd.prog GG 42 as_strings_Index ga_strings_Index em_strings_Index := fun vs h r hr => by
  have e : Shp.buildL as_strings_Index vs = [(.str ((tls 0 vs).headD .nilSl).chars), (.str ((tls 1 vs).headD .nilSl).chars)] := by kernel_rfl
  rw [← Shp.buildL_eq _ h, e]
  exact .inl ⟨by decide, fe_strings_Index _ _ r hr⟩
open Classical in
noncomputable def go_strings_Count (x : List Int) (p : List Int) : Option Int := if p.length = 1 then some (Lib.countByte (strBytes x) ((strBytes p).headD 0)) else none
def em_strings_Count (r : Int) : PV := (.int .i64 r)
def as_strings_Count : List Shp := [.str, .str]
noncomputable def ga_strings_Count (vs : List PV) : Option Int := go_strings_Count ((tls 0 vs).headD .nilSl).chars ((tls 1 vs).headD .nilSl).chars
theorem fe_strings_Count (x : List Int) (p : List Int) (r : Int) (hr : go_strings_Count x p = some r) : FunEq Tryd.prog GG 41 [(.str x), (.str p)] (em_strings_Count r) := by
  unfold go_strings_Count at hr
  split at hr
  · rename_i h
    cases hr
    exact fn_Count h
  · cases hr
theorem at_strings_Count : FnAt Tryd.prog GG 41 as_strings_Count ga_strings_Count em_strings_Count := fun vs h r hr => by
  have e : Shp.buildL as_strings_Count vs = [(.str ((tls 0 vs).headD .nilSl).chars), (.str ((tls 1 vs).headD .nilSl).chars)] := by kernel_rfl
  rw [← Shp.buildL_eq _ h, e]
  exact .inl ⟨by decide, fe_strings_Count _ _ r hr⟩
open Classical in
noncomputable def go_strings_IndexByte (x : List Int) (c : Int) : Option Int := some (Lib.indexByte (strBytes x) (c).toNat.toUInt8)
def em_strings_IndexByte (r : Int) : PV := (.int .i64 r)
def as_strings_IndexByte : List Shp := [.str, (.int .u8)]
noncomputable def ga_strings_IndexByte (vs : List PV) : Option Int := go_strings_IndexByte ((tls 0 vs).headD .nilSl).chars ((tls 1 vs).headD .nilSl).num
theorem fe_strings_IndexByte (x : List Int) (c : Int) (r : Int) (hr : go_strings_IndexByte x c = some r) : FunEq Tryd.prog GG 55 [(.str x), (.int .u8 c)] (em_strings_IndexByte r) := by
  unfold go_strings_IndexByte at hr
  cases hr
  exact fn_IndexByte
theorem at_strings_IndexByte : FnAt Tryd.prog GG 55 as_strings_IndexByte ga_strings_IndexByte em_strings_IndexByte := fun vs h r hr => by
  have e : Shp.buildL as_strings_IndexByte vs = [(.str ((tls 0 vs).headD .nilSl).chars), (.int .u8 ((tls 1 vs).headD .nilSl).num)] := by kernel_rfl
  rw [← Shp.buildL_eq _ h, e]
  exact .inl ⟨by decide, fe_strings_IndexByte _ _ r hr⟩
end Go.Proofs
set_option linter.unusedVariables false
set_option maxRecDepth 100000
namespace Go.Proofs
open Go Go.Fx
theorem glob_of_tab {P : Program} {g : Nat} {name : String} {k : IntKind} {zs : List Int} {W : World} (hn : P.globalNamed name = some g) (h : Lib.TabIs P W name k zs) :
    (PV.iref k zs 0).rel (full W) (.pointer (some ⟨g, 0, none⟩)) ∧ tabOk (full W) g (.iref k zs 0) := by
  unfold Lib.TabIs World.var? at h
  rw [hn] at h
  simp only [Option.bind_some] at h
  split at h
  · rename_i cs ty fz e
    have h := Option.some.inj h
    refine ⟨⟨g, 0, rfl, fun j x hj => ⟨cs, ty, fz, e, ?_⟩⟩, cs, ty, fz, e, by rw [h]; simp⟩
    rw [h, Nat.zero_add, List.getElem?_toArray]
    exact hj
  · cases h
theorem funEqG_true {P : Program} {G : Glob} {f : FuncId} {args : List PV} {vs : List Value} (h : FunEq P G f args (.bool true)) (w : World) (hG : GlobOk G (full w)) (hv : PV.relL (full w) args vs) :
    Calls P f vs.toArray w fun e w' => e = .returned (.bool true) ∧ Left' w w' :=
  (h.2 w (full w) vs (fun _ _ e => e) hG hv).mono fun e w' ⟨v, he, hr, hz, hk, ho⟩ => by
    have hv : v = .bool true := hr
    subst hv
    exact ⟨he, hz, hk, ho⟩
namespace YtlfffpkfipdboaaDoor
def laid5 : List (String × DataW Unit) := [("math/bits.deBruijn32tab", Rows.laid_math_bits_deBruijn32tab), ("math/bits.deBruijn64tab", Rows.laid_math_bits_deBruijn64tab), ("internal/strconv.uint64pow10", Rows.laid_internal_strconv_uint64pow10), ("unicode/utf8.acceptRanges", Rows.laid_unicode_utf8_acceptRanges), ("strconv.ErrRange", Rows.laid_strconv_ErrRange), ("strconv.ErrSyntax", Rows.laid_strconv_ErrSyntax), ("unicode/utf8.first", Rows.laid_unicode_utf8_first)]
theorem pow_data : Rows.laid_internal_strconv_uint64pow10 = Lib.tabData (H := Unit) .u64 Lib.pow10Tab := by kernel_rfl
theorem glob_laid {W : World} (h : laidMetH Tryd.prog laid5 W) : GlobOk GG (full W) := by
  rw [MakeChecks.laidMetH_plain _ _ _ (by kernel_rfl)] at h
  have h4 := laidMet.tail (laidMet.tail h)
  rw [pow_data] at h4
  have t4 := Lib.tabIs_of_head (g := 5) (t := 116) (e := 97) (n := 20) (by kernel_rfl) (by kernel_rfl) (by kernel_rfl) (by kernel_rfl) (by kernel_rfl) (by kernel_rfl) h4
  intro g x e
  unfold GG at e
  split at e
  · cases e; exact glob_of_tab (by kernel_rfl) t4
  · cases e
theorem door_met (os : Os) (args : Array Value) : laidMetH Tryd.prog laid5 ((World.laidAll Tryd.prog os laid5).forCall (fun _ _ => 0) ⟨#[], args, []⟩).memory := by
  rw [MakeChecks.laidMetH_plain _ _ _ (by kernel_rfl)]
  exact laidMet_laidAll args (by kernel_rfl) (by kernel_rfl)
end YtlfffpkfipdboaaDoor
end Go.Proofs
set_option linter.unusedSimpArgs false
set_option linter.unusedVariables false
namespace Go.Proofs
open Go Go.Fx
def isB (l : List Int) : Prop := ∀ x ∈ l, 0 ≤ x ∧ x < 256
theorem isB_nil : isB [] := fun _ h => by cases h
theorem isB_cons {x : Int} {l : List Int} : isB (x :: l) ↔ (0 ≤ x ∧ x < 256) ∧ isB l := by
  unfold isB; simp
theorem isB_take {l : List Int} (h : isB l) (n : Nat) : isB (l.take n) := fun x hx => h x (List.mem_of_mem_take hx)
theorem isB_drop {l : List Int} (h : isB l) (n : Nat) : isB (l.drop n) := fun x hx => h x (List.mem_of_mem_drop hx)
theorem isB_getD {l : List Int} (h : isB l) (k : Nat) : 0 ≤ l.getD k 0 ∧ l.getD k 0 < 256 := by
  by_cases hk : k < l.length
  · rw [List.getD_eq_getElem?_getD, List.getElem?_eq_getElem hk]
    exact h _ (List.getElem_mem hk)
  · rw [List.getD_eq_getElem?_getD, List.getElem?_eq_none (by omega)]
    exact ⟨by decide, by decide⟩
def val : List Int → Nat
  | [] => 0
  | b :: l => b.toNat + 256 * val l
def u64 (n : Int) : Nat := (n % 18446744073709551616).toNat
end Go.Proofs
set_option linter.unusedSimpArgs false
set_option linter.unusedVariables false
namespace Go.Proofs
open Go Go.Fx
theorem iterN_mono {X Y : Type} {step : X → Option (X ⊕ Y)} : ∀ {n : Nat} {x : X} {y : Y}, iterN step n x = some y → ∀ m, n ≤ m → iterN step m x = some y
  | 0, x, y, h, m, _ => by cases h
  | n + 1, x, y, h, m, hm => by
    obtain ⟨m, rfl⟩ : ∃ k, m = k + 1 := ⟨m - 1, by omega⟩
    simp only [iterN] at h ⊢
    split at h
    · cases h
    · exact iterN_mono h m (by omega)
    · exact h
theorem loopN_of {X Y : Type} {step : X → Option (X ⊕ Y)} {x : X} {y : Y} (n : Nat) (hn : n ≤ 18446744073709551616) (h : iterN step n x = some y) : loopN step x = some y := iterN_mono h _ hn
theorem iterN_rule {X Y : Type} {step : X → Option (X ⊕ Y)} {I : X → Prop} {μ : X → Nat} {Q : Y → Prop}
    (h : ∀ x, I x → (∃ y, step x = some (.inr y) ∧ Q y) ∨ (∃ x', step x = some (.inl x') ∧ I x' ∧ μ x' < μ x)) : ∀ (n : Nat) (x : X), I x → μ x < n → ∃ y, iterN step n x = some y ∧ Q y
  | 0, x, _, hn => by omega
  | n + 1, x, hx, hn => by
    rcases h x hx with ⟨y, h1, h2⟩ | ⟨x', h1, h2, h3⟩
    · exact ⟨y, by simp only [iterN, h1], h2⟩
    · obtain ⟨y, h4, h5⟩ := iterN_rule h n x' h2 (by omega)
      exact ⟨y, by simp only [iterN, h1]; exact h4, h5⟩
theorem loop_rule {X Y : Type} {step : X → Option (X ⊕ Y)} (I : X → Prop) (μ : X → Nat) (Q : Y → Prop)
    (h : ∀ x, I x → (∃ y, step x = some (.inr y) ∧ Q y) ∨ (∃ x', step x = some (.inl x') ∧ I x' ∧ μ x' < μ x)) {x : X} (hx : I x) (hb : μ x < 18446744073709551616) : ∃ y, loopN step x = some y ∧ Q y :=
  iterN_rule h _ x hx hb
theorem w64 {a : Int} (h1 : -9223372036854775808 ≤ a) (h2 : a ≤ 9223372036854775807) : IntKind.wrap .i64 a = a := by
  rw [IntKind.wrap_i64]; omega
end Go.Proofs
set_option linter.unusedVariables false
namespace Go.Proofs
open Go Go.Fx
def consW (x : Int) : List (List Int) → List (List Int)
  | w :: ws => (x :: w) :: ws
  | [] => [[x]]
def cutC (c : Int) : List Int → List (List Int)
  | [] => [[]]
  | x :: r => bif x == c then [] :: cutC c r else consW x (cutC c r)
def addW : List (List Int) → List (List Int) → List (List Int)
  | [], ws => ws
  | [w], v :: vs => (w ++ v) :: vs
  | [w], [] => [w]
  | w :: w' :: r, ws => w :: addW (w' :: r) ws
theorem cutC_ne (c : Int) : ∀ l : List Int, cutC c l ≠ []
  | [] => by simp [cutC]
  | x :: r => by
    rw [cutC]
    cases x == c with
    | true => simp
    | false =>
      rw [cond_false]
      cases e : cutC c r <;> simp [consW]
theorem addW_sep : ∀ {es vs : List (List Int)}, es ≠ [] → addW es ([] :: vs) = es ++ vs
  | [], vs, h => absurd rfl h
  | [w], vs, _ => by simp [addW]
  | w :: w' :: r, vs, _ => by rw [addW, addW_sep (by simp)]; rfl
theorem addW_cons {x : Int} : ∀ {es ws : List (List Int)}, es ≠ [] → ws ≠ [] → addW es (consW x ws) = addW (es.set (es.length - 1) (es.getD (es.length - 1) [] ++ [x])) ws
  | [], ws, h, _ => absurd rfl h
  | [w], v :: vs, _, _ => by simp [addW, consW]
  | [w], [], _, h => absurd rfl h
  | w :: w' :: r, ws, _, hw => by
    have ih := addW_cons (x := x) (es := w' :: r) (ws := ws) (by simp) hw
    rw [addW, ih]
    simp only [List.length_cons, Nat.add_sub_cancel, List.getD_cons_succ]
    rw [show (w :: w' :: r).set (r.length + 1) ((w' :: r).getD r.length [] ++ [x]) = w :: (w' :: r).set r.length ((w' :: r).getD r.length [] ++ [x]) from rfl]
    cases e : (w' :: r).set r.length ((w' :: r).getD r.length [] ++ [x]) with
    | nil => have := congrArg List.length e; simp at this
    | cons a b => rfl
theorem addW_nil {es : List (List Int)} (h : es ≠ []) : addW es [[]] = es := by rw [addW_sep h, List.append_nil]
theorem addW_start (ws : List (List Int)) (h : ws ≠ []) : addW [[]] ws = ws := by
  cases ws with
  | nil => exact absurd rfl h
  | cons v vs => rfl
def trimNL : List Int → List Int
  | [] => []
  | [x] => bif x == 10 then [] else [x]
  | x :: y :: r => x :: trimNL (y :: r)
def strs (ws : List (List Int)) : List PV := ws.map PV.str
theorem strs_len (ws : List (List Int)) : (strs ws).length = ws.length := List.length_map _
theorem strs_get {ws : List (List Int)} {i : Nat} (h : i < ws.length) : (strs ws).getD i .nilSl = .str (ws.getD i []) := by
  simp [strs, List.getD_eq_getElem?_getD, List.getElem?_eq_getElem h]
theorem strs_set (ws : List (List Int)) (i : Nat) (v : List Int) : (strs ws).set i (.str v) = strs (ws.set i v) := by
  simp [strs, List.map_set]
theorem strs_append (a b : List (List Int)) : strs (a ++ b) = strs a ++ strs b := List.map_append
theorem scal_str (l : List Int) : PV.scal (.str l) = true := rfl
theorem ok_str (l : List Int) : Shp.ok .str (.str l) = true := rfl
theorem chars_str (l : List Int) : PV.chars (.str l) = l := rfl
theorem isB_cut {c : Int} : ∀ {l : List Int}, isB l → ∀ w ∈ cutC c l, isB w
  | [], h, w, hw => by simp [cutC] at hw; subst hw; exact isB_nil
  | x :: r, h, w, hw => by
    have ih := isB_cut (c := c) (isB_cons.1 h).2
    rw [cutC] at hw
    cases e : x == c with
    | true =>
      rw [e, cond_true] at hw
      rcases List.mem_cons.1 hw with rfl | hw
      · exact isB_nil
      · exact ih w hw
    | false =>
      rw [e, cond_false] at hw
      cases e2 : cutC c r with
      | nil => exact absurd e2 (cutC_ne c r)
      | cons v vs =>
        rw [e2, consW] at hw
        rw [e2] at ih
        rcases List.mem_cons.1 hw with rfl | hw
        · exact isB_cons.2 ⟨(isB_cons.1 h).1, ih v (List.mem_cons_self ..)⟩
        · exact ih w (List.mem_cons_of_mem _ hw)
theorem cut_len {c : Int} : ∀ (l : List Int), (cutC c l).length ≤ l.length + 1 ∧ ∀ w ∈ cutC c l, w.length ≤ l.length
  | [] => by simp [cutC]
  | x :: r => by
    obtain ⟨h1, h2⟩ := cut_len (c := c) r
    rw [cutC]
    cases e : x == c with
    | true =>
      rw [cond_true]
      refine ⟨by simp only [List.length_cons]; omega, fun w hw => ?_⟩
      rcases List.mem_cons.1 hw with rfl | hw
      · simp
      · have := h2 w hw; simp only [List.length_cons]; omega
    | false =>
      rw [cond_false]
      cases e2 : cutC c r with
      | nil => exact absurd e2 (cutC_ne c r)
      | cons v vs =>
        rw [e2] at h1 h2
        refine ⟨by simp only [consW, List.length_cons] at h1 ⊢; omega, fun w hw => ?_⟩
        rcases List.mem_cons.1 hw with rfl | hw
        · have := h2 v (List.mem_cons_self ..); simp only [List.length_cons]; omega
        · have := h2 w (List.mem_cons_of_mem _ hw); simp only [List.length_cons]; omega
end Go.Proofs
set_option linter.unusedVariables false
namespace Go.Proofs
open Go Go.Fx
def go_strings_explode (_x0 : List Int) (_x1 : Int) : Option (Bool × Bool × List PV) := none
def em_strings_explode (r : (Bool × Bool × List PV)) : PV := (.sl r.1 r.2.1 1 r.2.2)
def as_strings_explode : List Shp := [.str, (.int .i64)]
def ga_strings_explode (vs : List PV) : Option (Bool × Bool × List PV) := none
theorem at_strings_explode : FnAt Tryd.prog GG 40 as_strings_explode ga_strings_explode em_strings_explode := fun vs h r hr => by cases hr
end Go.Proofs
