/- A part of the proof. -/
import Derived.Shelf.Strings.Builder1
import Derived.Shelf.Small.Utf8
import Derived.Shelf.Small.Bits
import Derived.Shelf.Small.Strs
import Derived.Shelf.Small.Wraps
import Derived.Shelf.Strconv.Atoi
import Derived.Shelf.Strconv.Itoa0
import Derived.Shelf.Strconv.Itoa1
import Derived.Shelf.LaysM
import Derived.Shelf.Strconv.Itoa2
import Derived.Shelf.Strconv.Itoa3
import Derived.Shelf.Strings.Search1
import Derived.Shelf.Strings.Search2
import Derived.Shelf.Strings.Cut
import Derived.Shelf.Strings.Prefix
import Derived.Shelf.Strings.AsciiSet
import Derived.Ground.Names2Prog
import Derived.Ground.SlsfProg
import Derived.Shelf.SlSortCmp.NoneTotal
import Derived.Shelf.SlSortCmp.WholeK
import Derived.Shelf.Strings.SlTrimAscii
import Derived.KernelRfl
import Derived.Test.YtgblokifbgeegaaGreatDoorProg
set_option linter.unusedVariables false
set_option linter.unusedSimpArgs false
namespace Go.Proofs
open Go.Shelf
def Tryz.lays167_ren : Go.Shelf.Ren := ⟨fun | 167 => 209 | 240 => 240 | 276 => 275 | n => n, fun | 0 => 0 | 4 => 4 | 5 => 5 | 9 => 9 | 20 => 20 | 37 => 145 | 70 => 247 | 72 => 249 | 75 => 231 | 80 => 251 | 164 => 316 | n => n, fun | n => n⟩
theorem Tryz.lays167 : Go.Proofs.Lays.n167 Tryz.prog Tryz.lays167_ren := {
 mixed := by kernel_rfl
 f167 := Tryz.func209.trans (congrArg some (by kernel_rfl))
 f240 := Tryz.func240.trans (congrArg some (by kernel_rfl))
 f276 := Tryz.func275.trans (congrArg some (by kernel_rfl))
 t0 := Tryz.underlying0
 a0 := Tryz.isAgg0
 z0 := Tryz.sizeOf0
 v0 := Tryz.zeroValue0
 t4 := Tryz.underlying4
 a4 := Tryz.isAgg4
 z4 := Tryz.sizeOf4
 v4 := Tryz.zeroValue4
 t5 := Tryz.underlying5
 a5 := Tryz.isAgg5
 z5 := Tryz.sizeOf5
 v5 := Tryz.zeroValue5
 t9 := Tryz.underlying9
 a9 := Tryz.isAgg9
 z9 := Tryz.sizeOf9
 v9 := Tryz.zeroValue9
 t20 := Tryz.underlying20
 a20 := Tryz.isAgg20
 z20 := Tryz.sizeOf20
 v20 := Tryz.zeroValue20
 t37 := Tryz.underlying145
 a37 := Tryz.isAgg145
 z37 := Tryz.sizeOf145
 v37 := Tryz.zeroValue145
 t70 := Tryz.underlying247
 a70 := Tryz.isAgg247
 z70 := Tryz.sizeOf247
 v70 := Tryz.zeroValue247
 t72 := Tryz.underlying249
 a72 := Tryz.isAgg249
 z72 := Tryz.sizeOf249
 v72 := Tryz.zeroValue249
 t75 := Tryz.underlying231
 a75 := Tryz.isAgg231
 z75 := Tryz.sizeOf231
 v75 := Tryz.zeroValue231
 t164 := Tryz.underlying316
 a164 := Tryz.isAgg316
 z164 := Tryz.sizeOf316
 v164 := Tryz.zeroValue316 }
theorem Tryz.Builder_Extra_167 : Builder.Extra Tryz.prog Tryz.lays167_ren where
 sizeBuilder := by kernel_rfl
 liesBuilder := by kernel_rfl
 t5 := Tryz.underlying5
 a5 := Tryz.isAgg5
 z5 := Tryz.sizeOf5
 v5 := Tryz.zeroValue5
 infoByte := by kernel_rfl
 cellsByte := by kernel_rfl
 sizeByte := by kernel_rfl
 neB5 := by decide
open Go.RowKit in
theorem Tryz.Builder_WriteByte (B b : Nat) (bs : List Value) (c : Int) (w : World) (h : Lib.IsBuilder 249 5 B b bs w) (hlen : bs.length + 1 ≤ 140737488355328) (hBw : B ≤ w.heap.size) :
  Calls Tryz.prog 209 #[.pointer (some ⟨b, 0, none⟩), .int .u8 c] w fun e w' => e = .returned .nilIface ∧ (Lib.BuilderAt 249 5 B b (.pointer (some ⟨b, 0, none⟩)) (bs ++ [.int .u8 c]) w' ∧ Below B w w') := Any.Builder_WriteByte Tryz.lays167 Tryz.Builder_Extra_167 B b bs c w h hlen hBw
def Tryz.lays166_ren : Go.Shelf.Ren := ⟨fun | 166 => 210 | 240 => 240 | 276 => 275 | n => n, fun | 0 => 0 | 3 => 3 | 4 => 4 | 9 => 9 | 20 => 20 | 37 => 145 | 70 => 247 | 72 => 249 | 75 => 231 | 80 => 251 | 164 => 316 | n => n, fun | n => n⟩
theorem Tryz.lays166 : Go.Proofs.Lays.n166 Tryz.prog Tryz.lays166_ren := {
 mixed := by kernel_rfl
 f166 := Tryz.func210.trans (congrArg some (by kernel_rfl))
 f240 := Tryz.func240.trans (congrArg some (by kernel_rfl))
 f276 := Tryz.func275.trans (congrArg some (by kernel_rfl))
 t0 := Tryz.underlying0
 a0 := Tryz.isAgg0
 z0 := Tryz.sizeOf0
 v0 := Tryz.zeroValue0
 t3 := Tryz.underlying3
 a3 := Tryz.isAgg3
 z3 := Tryz.sizeOf3
 v3 := Tryz.zeroValue3
 t4 := Tryz.underlying4
 a4 := Tryz.isAgg4
 z4 := Tryz.sizeOf4
 v4 := Tryz.zeroValue4
 t9 := Tryz.underlying9
 a9 := Tryz.isAgg9
 z9 := Tryz.sizeOf9
 v9 := Tryz.zeroValue9
 t20 := Tryz.underlying20
 a20 := Tryz.isAgg20
 z20 := Tryz.sizeOf20
 v20 := Tryz.zeroValue20
 t37 := Tryz.underlying145
 a37 := Tryz.isAgg145
 z37 := Tryz.sizeOf145
 v37 := Tryz.zeroValue145
 t70 := Tryz.underlying247
 a70 := Tryz.isAgg247
 z70 := Tryz.sizeOf247
 v70 := Tryz.zeroValue247
 t72 := Tryz.underlying249
 a72 := Tryz.isAgg249
 z72 := Tryz.sizeOf249
 v72 := Tryz.zeroValue249
 t75 := Tryz.underlying231
 a75 := Tryz.isAgg231
 z75 := Tryz.sizeOf231
 v75 := Tryz.zeroValue231
 t164 := Tryz.underlying316
 a164 := Tryz.isAgg316
 z164 := Tryz.sizeOf316
 v164 := Tryz.zeroValue316 }
theorem Tryz.Builder_Extra_166 : Builder.Extra Tryz.prog Tryz.lays166_ren where
 sizeBuilder := by kernel_rfl
 liesBuilder := by kernel_rfl
 t5 := Tryz.underlying5
 a5 := Tryz.isAgg5
 z5 := Tryz.sizeOf5
 v5 := Tryz.zeroValue5
 infoByte := by kernel_rfl
 cellsByte := by kernel_rfl
 sizeByte := by kernel_rfl
 neB5 := by decide
open Go.RowKit in
theorem Tryz.Builder_WriteString (B b : Nat) (bs : List Value) (s : ByteArray) (w : World) (h : Lib.IsBuilder 249 5 B b bs w) (hlen : bs.length + s.size ≤ 140737488355328) (hBw : B ≤ w.heap.size) :
  Calls Tryz.prog 210 #[.pointer (some ⟨b, 0, none⟩), .string s] w fun e w' => e = .returned (.tuple #[.int .i64 s.size, .nilIface]) ∧ (Lib.BuilderAt 249 5 B b (.pointer (some ⟨b, 0, none⟩)) (bs ++ Lib.strCells s) w' ∧ Below B w w') := Any.Builder_WriteString Tryz.lays166 Tryz.Builder_Extra_166 B b bs s w h hlen hBw
def Tryz.lays169_ren : Go.Shelf.Ren := ⟨fun | 169 => 211 | n => n, fun | 70 => 247 | 9 => 9 | 0 => 0 | 72 => 249 | 37 => 145 | 127 => 282 | 3 => 3 | 5 => 5 | n => n, fun | n => n⟩
theorem Tryz.lays169 : Go.Proofs.Lays.n169 Tryz.prog Tryz.lays169_ren := {
 mixed := by kernel_rfl
 f169 := Tryz.func211.trans (congrArg some (by kernel_rfl))
 t0 := Tryz.underlying0
 a0 := Tryz.isAgg0
 z0 := Tryz.sizeOf0
 v0 := Tryz.zeroValue0
 t3 := Tryz.underlying3
 a3 := Tryz.isAgg3
 z3 := Tryz.sizeOf3
 v3 := Tryz.zeroValue3
 t9 := Tryz.underlying9
 a9 := Tryz.isAgg9
 z9 := Tryz.sizeOf9
 v9 := Tryz.zeroValue9
 t37 := Tryz.underlying145
 a37 := Tryz.isAgg145
 z37 := Tryz.sizeOf145
 v37 := Tryz.zeroValue145
 t70 := Tryz.underlying247
 a70 := Tryz.isAgg247
 z70 := Tryz.sizeOf247
 v70 := Tryz.zeroValue247
 t72 := Tryz.underlying249
 a72 := Tryz.isAgg249
 z72 := Tryz.sizeOf249
 v72 := Tryz.zeroValue249
 t127 := Tryz.underlying282
 a127 := Tryz.isAgg282
 z127 := Tryz.sizeOf282
 v127 := Tryz.zeroValue282 }
theorem Tryz.Builder_Extra_169 : Builder.Extra Tryz.prog Tryz.lays169_ren := {
 sizeBuilder := by kernel_rfl
 liesBuilder := by kernel_rfl
 t5 := Tryz.underlying5
 a5 := Tryz.isAgg5
 z5 := Tryz.sizeOf5
 v5 := Tryz.zeroValue5
 infoByte := by kernel_rfl
 cellsByte := by kernel_rfl
 sizeByte := by kernel_rfl
 neB5 := by decide }
open Go.RowKit in
theorem Tryz.Builder_String (B b : Nat) (l : List UInt8) (w : World) (h : Lib.IsBuilder 249 5 B b (Lib.byteCells l) w) (h0 : l ≠ []) :
  Calls Tryz.prog 211 #[.pointer (some ⟨b, 0, none⟩)] w fun e w' => e = .returned (.string ⟨l.toArray⟩) ∧ Below B w w' := Any.Builder_String Tryz.lays169 Tryz.Builder_Extra_169 B b l w h h0
def Tryz.lays160_ren : Go.Shelf.Ren := ⟨fun | 160 => 196 | 232 => 219 | 231 => 218 | 227 => 220 | 234 => 222 | 233 => 221 | 236 => 224 | 235 => 223 | 228 => 251 | 271 => 254 | 151 => 253 | 197 => 252 | 120 => 283 | 152 => 282 | 260 => 281 | 137 => 300 | 119 => 301 | 224 => 236 | 225 => 235 | 217 => 234 | 266 => 273 | n => n, fun | 9 => 9 | 4 => 4 | 3 => 3 | 5 => 5 | 117 => 262 | 116 => 261 | 0 => 0 | 124 => 265 | 21 => 21 | 105 => 294 | 46 => 278 | 119 => 341 | 139 => 344 | 138 => 343 | n => n, fun | 3 => 6 | 4 => 7 | n => n⟩
theorem Tryz.lays160 : Go.Proofs.Lays.n160 Tryz.prog Tryz.lays160_ren := {
 mixed := by kernel_rfl
 f119 := Tryz.func301.trans (congrArg some (by kernel_rfl))
 f120 := Tryz.func283.trans (congrArg some (by kernel_rfl))
 f137 := Tryz.func300.trans (congrArg some (by kernel_rfl))
 f151 := Tryz.func253.trans (congrArg some (by kernel_rfl))
 f152 := Tryz.func282.trans (congrArg some (by kernel_rfl))
 f160 := Tryz.func196.trans (congrArg some (by kernel_rfl))
 f197 := Tryz.func252.trans (congrArg some (by kernel_rfl))
 f217 := Tryz.func234.trans (congrArg some (by kernel_rfl))
 f224 := Tryz.func236.trans (congrArg some (by kernel_rfl))
 f225 := Tryz.func235.trans (congrArg some (by kernel_rfl))
 f227 := Tryz.func220.trans (congrArg some (by kernel_rfl))
 f228 := Tryz.func251.trans (congrArg some (by kernel_rfl))
 f231 := Tryz.func218.trans (congrArg some (by kernel_rfl))
 f232 := Tryz.func219.trans (congrArg some (by kernel_rfl))
 f233 := Tryz.func221.trans (congrArg some (by kernel_rfl))
 f234 := Tryz.func222.trans (congrArg some (by kernel_rfl))
 f235 := Tryz.func223.trans (congrArg some (by kernel_rfl))
 f236 := Tryz.func224.trans (congrArg some (by kernel_rfl))
 f260 := Tryz.func281.trans (congrArg some (by kernel_rfl))
 f266 := Tryz.func273.trans (congrArg some (by kernel_rfl))
 f271 := Tryz.func254.trans (congrArg some (by kernel_rfl))
 t0 := Tryz.underlying0
 a0 := Tryz.isAgg0
 z0 := Tryz.sizeOf0
 v0 := Tryz.zeroValue0
 t3 := Tryz.underlying3
 a3 := Tryz.isAgg3
 z3 := Tryz.sizeOf3
 v3 := Tryz.zeroValue3
 t4 := Tryz.underlying4
 a4 := Tryz.isAgg4
 z4 := Tryz.sizeOf4
 v4 := Tryz.zeroValue4
 t5 := Tryz.underlying5
 a5 := Tryz.isAgg5
 z5 := Tryz.sizeOf5
 v5 := Tryz.zeroValue5
 t9 := Tryz.underlying9
 a9 := Tryz.isAgg9
 z9 := Tryz.sizeOf9
 v9 := Tryz.zeroValue9
 t21 := Tryz.underlying21
 a21 := Tryz.isAgg21
 z21 := Tryz.sizeOf21
 v21 := Tryz.zeroValue21
 t46 := Tryz.underlying278
 a46 := Tryz.isAgg278
 z46 := Tryz.sizeOf278
 v46 := Tryz.zeroValue278
 t105 := Tryz.underlying294
 a105 := Tryz.isAgg294
 z105 := Tryz.sizeOf294
 v105 := Tryz.zeroValue294
 t116 := Tryz.underlying261
 a116 := Tryz.isAgg261
 z116 := Tryz.sizeOf261
 t117 := Tryz.underlying262
 a117 := Tryz.isAgg262
 z117 := Tryz.sizeOf262
 v117 := Tryz.zeroValue262
 t119 := Tryz.underlying341
 a119 := Tryz.isAgg341
 z119 := Tryz.sizeOf341
 t124 := Tryz.underlying265
 a124 := Tryz.isAgg265
 z124 := Tryz.sizeOf265
 v124 := Tryz.zeroValue265
 t138 := Tryz.underlying343
 a138 := Tryz.isAgg343
 z138 := Tryz.sizeOf343
 v138 := Tryz.zeroValue343
 t139 := Tryz.underlying344
 a139 := Tryz.isAgg344
 z139 := Tryz.sizeOf344
 v139 := Tryz.zeroValue344
 g3 := by kernel_rfl
 g4 := by kernel_rfl }
def Tryz.lays106_ren : Go.Shelf.Ren := ⟨fun | 106 => 182 | 213 => 204 | 265 => 238 | n => n, fun | 9 => 9 | 3 => 3 | n => n, fun | n => n⟩
theorem Tryz.lays106 : Go.Proofs.Lays.n106 Tryz.prog Tryz.lays106_ren := {
 mixed := by kernel_rfl
 f106 := Tryz.func182.trans (congrArg some (by kernel_rfl))
 f213 := Tryz.func204.trans (congrArg some (by kernel_rfl))
 f265 := Tryz.func238.trans (congrArg some (by kernel_rfl))
 t3 := Tryz.underlying3
 a3 := Tryz.isAgg3
 z3 := Tryz.sizeOf3
 v3 := Tryz.zeroValue3
 t9 := Tryz.underlying9
 a9 := Tryz.isAgg9
 z9 := Tryz.sizeOf9
 v9 := Tryz.zeroValue9 }
open Go.RowKit in
theorem Tryz.strings_Compare (a b : ByteArray) (w : World) :
  Calls Tryz.prog 182 #[.string a, .string b] w fun e w' => e = .returned (.int .i64 (Lib.compareBytes a.data.toList b.data.toList)) ∧ w' = w := Any.strings_Compare Tryz.lays106 a b w
def Tryz.lays122_ren : Go.Shelf.Ren := ⟨fun | 122 => 132 | 215 => 174 | n => n, fun | 3 => 3 | 4 => 4 | n => n, fun | n => n⟩
theorem Tryz.lays122 : Go.Proofs.Lays.n122 Tryz.prog Tryz.lays122_ren := {
 mixed := by kernel_rfl
 f122 := Tryz.func132.trans (congrArg some (by kernel_rfl))
 f215 := Tryz.func174.trans (congrArg some (by kernel_rfl))
 t3 := Tryz.underlying3
 a3 := Tryz.isAgg3
 z3 := Tryz.sizeOf3
 v3 := Tryz.zeroValue3
 t4 := Tryz.underlying4
 a4 := Tryz.isAgg4
 z4 := Tryz.sizeOf4
 v4 := Tryz.zeroValue4 }
open Go.RowKit in
theorem Tryz.cmp_Compare_int (x y : Int) (w : World) :
  Calls Tryz.prog 132 #[.int .i64 x, .int .i64 y] w fun e w' => e = .returned (.int .i64 (Lib.compareInt x y)) ∧ w' = w := Any.cmp_Compare_int Tryz.lays122 x y w
def Tryz.lays172_ren : Go.Shelf.Ren := ⟨fun | 172 => 192 | 244 => 212 | 245 => 213 | 247 => 241 | 279 => 242 | 280 => 243 | 281 => 244 | 282 => 245 | 287 => 276 | 316 => 277 | 171 => 125 | 205 => 278 | 321 => 298 | 322 => 299 | 243 => 164 | 246 => 195 | 283 => 214 | 284 => 215 | 285 => 216 | 286 => 217 | 129 => 247 | 317 => 246 | 318 => 248 | 319 => 249 | 320 => 250 | 337 => 279 | 338 => 280 | n => n, fun | 9 => 9 | 3 => 3 | 75 => 231 | 76 => 232 | 4 => 4 | 5 => 5 | 167 => 283 | 37 => 145 | 0 => 0 | 85 => 284 | 2 => 2 | 168 => 286 | 53 => 254 | 175 => 318 | 46 => 278 | 210 => 321 | 127 => 282 | 145 => 338 | 143 => 336 | 21 => 21 | 171 => 253 | 173 => 257 | 212 => 290 | 51 => 291 | 20 => 20 | 213 => 292 | 232 => 339 | 233 => 340 | 80 => 251 | n => n, fun | 15 => 2 | 16 => 3 | 17 => 1 | 18 => 4 | 19 => 5 | n => n⟩
theorem Tryz.lays172 : Go.Proofs.Lays.n172 Tryz.prog Tryz.lays172_ren := {
 mixed := by kernel_rfl
 f129 := Tryz.func247.trans (congrArg some (by kernel_rfl))
 f171 := Tryz.func125.trans (congrArg some (by kernel_rfl))
 f172 := Tryz.func192.trans (congrArg some (by kernel_rfl))
 f205 := Tryz.func278.trans (congrArg some (by kernel_rfl))
 f243 := Tryz.func164.trans (congrArg some (by kernel_rfl))
 f244 := Tryz.func212.trans (congrArg some (by kernel_rfl))
 f245 := Tryz.func213.trans (congrArg some (by kernel_rfl))
 f246 := Tryz.func195.trans (congrArg some (by kernel_rfl))
 f247 := Tryz.func241.trans (congrArg some (by kernel_rfl))
 f279 := Tryz.func242.trans (congrArg some (by kernel_rfl))
 f280 := Tryz.func243.trans (congrArg some (by kernel_rfl))
 f281 := Tryz.func244.trans (congrArg some (by kernel_rfl))
 f282 := Tryz.func245.trans (congrArg some (by kernel_rfl))
 f283 := Tryz.func214.trans (congrArg some (by kernel_rfl))
 f284 := Tryz.func215.trans (congrArg some (by kernel_rfl))
 f285 := Tryz.func216.trans (congrArg some (by kernel_rfl))
 f286 := Tryz.func217.trans (congrArg some (by kernel_rfl))
 f287 := Tryz.func276.trans (congrArg some (by kernel_rfl))
 f316 := Tryz.func277.trans (congrArg some (by kernel_rfl))
 f317 := Tryz.func246.trans (congrArg some (by kernel_rfl))
 f318 := Tryz.func248.trans (congrArg some (by kernel_rfl))
 f319 := Tryz.func249.trans (congrArg some (by kernel_rfl))
 f320 := Tryz.func250.trans (congrArg some (by kernel_rfl))
 f321 := Tryz.func298.trans (congrArg some (by kernel_rfl))
 f322 := Tryz.func299.trans (congrArg some (by kernel_rfl))
 f337 := Tryz.func279.trans (congrArg some (by kernel_rfl))
 f338 := Tryz.func280.trans (congrArg some (by kernel_rfl))
 t0 := Tryz.underlying0
 a0 := Tryz.isAgg0
 z0 := Tryz.sizeOf0
 v0 := Tryz.zeroValue0
 t2 := Tryz.underlying2
 a2 := Tryz.isAgg2
 z2 := Tryz.sizeOf2
 v2 := Tryz.zeroValue2
 t3 := Tryz.underlying3
 a3 := Tryz.isAgg3
 z3 := Tryz.sizeOf3
 v3 := Tryz.zeroValue3
 t4 := Tryz.underlying4
 a4 := Tryz.isAgg4
 z4 := Tryz.sizeOf4
 v4 := Tryz.zeroValue4
 t5 := Tryz.underlying5
 a5 := Tryz.isAgg5
 z5 := Tryz.sizeOf5
 v5 := Tryz.zeroValue5
 t9 := Tryz.underlying9
 a9 := Tryz.isAgg9
 z9 := Tryz.sizeOf9
 v9 := Tryz.zeroValue9
 t20 := Tryz.underlying20
 a20 := Tryz.isAgg20
 z20 := Tryz.sizeOf20
 v20 := Tryz.zeroValue20
 t21 := Tryz.underlying21
 a21 := Tryz.isAgg21
 z21 := Tryz.sizeOf21
 v21 := Tryz.zeroValue21
 t37 := Tryz.underlying145
 a37 := Tryz.isAgg145
 z37 := Tryz.sizeOf145
 v37 := Tryz.zeroValue145
 t46 := Tryz.underlying278
 a46 := Tryz.isAgg278
 z46 := Tryz.sizeOf278
 v46 := Tryz.zeroValue278
 t51 := Tryz.underlying291
 a51 := Tryz.isAgg291
 z51 := Tryz.sizeOf291
 v51 := Tryz.zeroValue291
 t53 := Tryz.underlying254
 a53 := Tryz.isAgg254
 z53 := Tryz.sizeOf254
 v53 := Tryz.zeroValue254
 t75 := Tryz.underlying231
 a75 := Tryz.isAgg231
 z75 := Tryz.sizeOf231
 v75 := Tryz.zeroValue231
 t76 := Tryz.underlying232
 a76 := Tryz.isAgg232
 z76 := Tryz.sizeOf232
 v76 := Tryz.zeroValue232
 t85 := Tryz.underlying284
 a85 := Tryz.isAgg284
 z85 := Tryz.sizeOf284
 v85 := Tryz.zeroValue284
 t127 := Tryz.underlying282
 a127 := Tryz.isAgg282
 z127 := Tryz.sizeOf282
 v127 := Tryz.zeroValue282
 t143 := Tryz.underlying336
 a143 := Tryz.isAgg336
 z143 := Tryz.sizeOf336
 v143 := Tryz.zeroValue336
 t145 := Tryz.underlying338
 a145 := Tryz.isAgg338
 z145 := Tryz.sizeOf338
 v145 := Tryz.zeroValue338
 t167 := Tryz.underlying283
 a167 := Tryz.isAgg283
 z167 := Tryz.sizeOf283
 v167 := Tryz.zeroValue283
 t168 := Tryz.underlying286
 a168 := Tryz.isAgg286
 z168 := Tryz.sizeOf286
 v168 := Tryz.zeroValue286
 t171 := Tryz.underlying253
 a171 := Tryz.isAgg253
 z171 := Tryz.sizeOf253
 v171 := Tryz.zeroValue253
 t173 := Tryz.underlying257
 a173 := Tryz.isAgg257
 z173 := Tryz.sizeOf257
 v173 := Tryz.zeroValue257
 t175 := Tryz.underlying318
 a175 := Tryz.isAgg318
 z175 := Tryz.sizeOf318
 v175 := Tryz.zeroValue318
 t210 := Tryz.underlying321
 a210 := Tryz.isAgg321
 z210 := Tryz.sizeOf321
 v210 := Tryz.zeroValue321
 t212 := Tryz.underlying290
 a212 := Tryz.isAgg290
 z212 := Tryz.sizeOf290
 v212 := Tryz.zeroValue290
 t213 := Tryz.underlying292
 a213 := Tryz.isAgg292
 z213 := Tryz.sizeOf292
 t232 := Tryz.underlying339
 a232 := Tryz.isAgg339
 z232 := Tryz.sizeOf339
 v232 := Tryz.zeroValue339
 t233 := Tryz.underlying340
 a233 := Tryz.isAgg340
 z233 := Tryz.sizeOf340
 v233 := Tryz.zeroValue340
 g15 := by kernel_rfl
 g16 := by kernel_rfl
 g17 := by kernel_rfl
 g18 := by kernel_rfl
 g19 := by kernel_rfl }
open Go.RowKit in
theorem Tryz.strconv_Atoi (s : ByteArray) (n : Int) (hl : s.size ≤ 18) (h : Lib.atoi s.data.toList = some n) (w : World) :
  Calls Tryz.prog 192 #[.string s] w fun e w' => e = .returned (.tuple #[.int .i64 n, .nilIface]) ∧ ∃ t, w' = Lib.bytesWorld w 5 t := Any.strconv_Atoi Tryz.lays172 s n hl h w
def Tryz.laysM171_ren : Go.Shelf.Ren := ⟨fun | 171 => 125 | 243 => 164 | 246 => 195 | 283 => 214 | 284 => 215 | 285 => 216 | 286 => 217 | 129 => 247 | 317 => 246 | 318 => 248 | 319 => 249 | 320 => 250 | 337 => 279 | 338 => 280 | n => n, fun | 3 => 3 | 9 => 9 | 2 => 2 | 4 => 4 | 171 => 253 | 0 => 0 | 53 => 254 | 37 => 145 | 5 => 5 | 173 => 257 | 212 => 290 | 51 => 291 | 20 => 20 | 213 => 292 | 46 => 278 | 232 => 339 | 233 => 340 | n => n, fun | 17 => 1 | 18 => 4 | 19 => 5 | n => n⟩
theorem Tryz.laysM171 : Go.Proofs.LaysM.n171 Tryz.prog Tryz.laysM171_ren := {
 mixed := by kernel_rfl
 f129 := Tryz.func247.trans (congrArg some (by kernel_rfl))
 f171 := Tryz.func125.trans (congrArg some (by kernel_rfl))
 f243 := Tryz.func164.trans (congrArg some (by kernel_rfl))
 f246 := Tryz.func195.trans (congrArg some (by kernel_rfl))
 f283 := Tryz.func214.trans (congrArg some (by kernel_rfl))
 f284 := Tryz.func215.trans (congrArg some (by kernel_rfl))
 f285 := Tryz.func216.trans (congrArg some (by kernel_rfl))
 f286 := Tryz.func217.trans (congrArg some (by kernel_rfl))
 f317 := Tryz.func246.trans (congrArg some (by kernel_rfl))
 f318 := Tryz.func248.trans (congrArg some (by kernel_rfl))
 f319 := Tryz.func249.trans (congrArg some (by kernel_rfl))
 f320 := Tryz.func250.trans (congrArg some (by kernel_rfl))
 f337 := Tryz.func279.trans (congrArg some (by kernel_rfl))
 f338 := Tryz.func280.trans (congrArg some (by kernel_rfl))
 t0 := Tryz.underlying0
 a0 := Tryz.isAgg0
 z0 := Tryz.sizeOf0
 v0 := Tryz.zeroValue0
 t2 := Tryz.underlying2
 a2 := Tryz.isAgg2
 z2 := Tryz.sizeOf2
 v2 := Tryz.zeroValue2
 t3 := Tryz.underlying3
 a3 := Tryz.isAgg3
 z3 := Tryz.sizeOf3
 v3 := Tryz.zeroValue3
 t4 := Tryz.underlying4
 a4 := Tryz.isAgg4
 z4 := Tryz.sizeOf4
 v4 := Tryz.zeroValue4
 t5 := Tryz.underlying5
 a5 := Tryz.isAgg5
 z5 := Tryz.sizeOf5
 v5 := Tryz.zeroValue5
 t9 := Tryz.underlying9
 a9 := Tryz.isAgg9
 z9 := Tryz.sizeOf9
 v9 := Tryz.zeroValue9
 t20 := Tryz.underlying20
 a20 := Tryz.isAgg20
 z20 := Tryz.sizeOf20
 v20 := Tryz.zeroValue20
 t37 := Tryz.underlying145
 a37 := Tryz.isAgg145
 z37 := Tryz.sizeOf145
 v37 := Tryz.zeroValue145
 t46 := Tryz.underlying278
 a46 := Tryz.isAgg278
 z46 := Tryz.sizeOf278
 v46 := Tryz.zeroValue278
 t51 := Tryz.underlying291
 a51 := Tryz.isAgg291
 z51 := Tryz.sizeOf291
 v51 := Tryz.zeroValue291
 t53 := Tryz.underlying254
 a53 := Tryz.isAgg254
 z53 := Tryz.sizeOf254
 v53 := Tryz.zeroValue254
 t171 := Tryz.underlying253
 a171 := Tryz.isAgg253
 z171 := Tryz.sizeOf253
 v171 := Tryz.zeroValue253
 t173 := Tryz.underlying257
 a173 := Tryz.isAgg257
 z173 := Tryz.sizeOf257
 v173 := Tryz.zeroValue257
 t212 := Tryz.underlying290
 a212 := Tryz.isAgg290
 z212 := Tryz.sizeOf290
 v212 := Tryz.zeroValue290
 t213 := Tryz.underlying292
 a213 := Tryz.isAgg292
 z213 := Tryz.sizeOf292
 t232 := Tryz.underlying339
 a232 := Tryz.isAgg339
 z232 := Tryz.sizeOf339
 v232 := Tryz.zeroValue339
 t233 := Tryz.underlying340
 a233 := Tryz.isAgg340
 z233 := Tryz.sizeOf340
 v233 := Tryz.zeroValue340
 g17 := by kernel_rfl
 g18 := by kernel_rfl
 g19 := by kernel_rfl
 i0 := by kernel_rfl
 i2 := by kernel_rfl
 i3 := by kernel_rfl
 i4 := by kernel_rfl
 i5 := by kernel_rfl
 i9 := by kernel_rfl
 i20 := by kernel_rfl
 i37 := by kernel_rfl
 i46 := by kernel_rfl
 i51 := by kernel_rfl
 i53 := by kernel_rfl
 i171 := by kernel_rfl
 i173 := by kernel_rfl
 i212 := by kernel_rfl
 i232 := by kernel_rfl
 i233 := by kernel_rfl
 m17 := by kernel_rfl
 m18 := by kernel_rfl
 m19 := by kernel_rfl }
open Go.RowKit Go.Sort Go.Lib in
theorem Tryz.strconv_Itoa (n : Int) (h0 : -9223372036854775808 ≤ n) (h1 : n ≤ 9223372036854775807) (w : World) (htab : Lib.TabIs Tryz.prog w "internal/strconv.uint64pow10" .u64 Lib.pow10Tab) :
  Calls Tryz.prog 125 #[.int .i64 n] w fun e w' => e = .returned (.string ⟨(Lib.itoa n).toArray⟩) ∧ ∃ k os, w' = grow (w.drewN k) os := Any.strconv_Itoa Tryz.laysM171 n h0 h1 w htab
def Tryz.lays145_ren : Go.Shelf.Ren := ⟨fun | 145 => 141 | 220 => 181 | 219 => 203 | 217 => 234 | 225 => 235 | 224 => 236 | 267 => 237 | 266 => 273 | 314 => 274 | n => n, fun | 9 => 9 | 4 => 4 | 59 => 185 | 3 => 3 | 5 => 5 | 46 => 278 | 146 => 314 | 51 => 291 | n => n, fun | 1 => 0 | n => n⟩
theorem Tryz.lays145 : Go.Proofs.Lays.n145 Tryz.prog Tryz.lays145_ren := {
 mixed := by kernel_rfl
 f145 := Tryz.func141.trans (congrArg some (by kernel_rfl))
 f217 := Tryz.func234.trans (congrArg some (by kernel_rfl))
 f219 := Tryz.func203.trans (congrArg some (by kernel_rfl))
 f220 := Tryz.func181.trans (congrArg some (by kernel_rfl))
 f224 := Tryz.func236.trans (congrArg some (by kernel_rfl))
 f225 := Tryz.func235.trans (congrArg some (by kernel_rfl))
 f266 := Tryz.func273.trans (congrArg some (by kernel_rfl))
 f267 := Tryz.func237.trans (congrArg some (by kernel_rfl))
 f314 := Tryz.func274.trans (congrArg some (by kernel_rfl))
 t3 := Tryz.underlying3
 a3 := Tryz.isAgg3
 z3 := Tryz.sizeOf3
 v3 := Tryz.zeroValue3
 t4 := Tryz.underlying4
 a4 := Tryz.isAgg4
 z4 := Tryz.sizeOf4
 v4 := Tryz.zeroValue4
 t5 := Tryz.underlying5
 a5 := Tryz.isAgg5
 z5 := Tryz.sizeOf5
 v5 := Tryz.zeroValue5
 t9 := Tryz.underlying9
 a9 := Tryz.isAgg9
 z9 := Tryz.sizeOf9
 v9 := Tryz.zeroValue9
 t46 := Tryz.underlying278
 a46 := Tryz.isAgg278
 z46 := Tryz.sizeOf278
 v46 := Tryz.zeroValue278
 t51 := Tryz.underlying291
 a51 := Tryz.isAgg291
 z51 := Tryz.sizeOf291
 v51 := Tryz.zeroValue291
 t59 := Tryz.underlying185
 a59 := Tryz.isAgg185
 z59 := Tryz.sizeOf185
 v59 := Tryz.zeroValue185
 t146 := Tryz.underlying314
 a146 := Tryz.isAgg314
 z146 := Tryz.sizeOf314
 v146 := Tryz.zeroValue314
 g1 := by kernel_rfl }
open Go.RowKit Go.Lib in
theorem Tryz.strings_Cut (s sep : ByteArray) (m : Int) (w : World) (hs : s.size < 4294967281) (hm : w.cell? ⟨0, 0, none⟩ = some (.int .i64 m)) :
  Calls Tryz.prog 141 #[.string s, .string sep] w fun e w' => e = .returned (.tuple #[.string ⟨(Lib.cut s.data.toList sep.data.toList).1.toArray⟩, .string ⟨(Lib.cut s.data.toList sep.data.toList).2.1.toArray⟩, .bool (Lib.cut s.data.toList sep.data.toList).2.2]) ∧ ∃ n, w' = w.drewN n := Any.strings_Cut Tryz.lays145 s sep m w hs hm
def Tryz.lays99_ren : Go.Shelf.Ren := ⟨fun | 99 => 155 | 206 => 190 | n => n, fun | 9 => 9 | 4 => 4 | 3 => 3 | n => n, fun | n => n⟩
theorem Tryz.lays99 : Go.Proofs.Lays.n99 Tryz.prog Tryz.lays99_ren := {
 mixed := by kernel_rfl
 f99 := Tryz.func155.trans (congrArg some (by kernel_rfl))
 f206 := Tryz.func190.trans (congrArg some (by kernel_rfl))
 t3 := Tryz.underlying3
 a3 := Tryz.isAgg3
 z3 := Tryz.sizeOf3
 v3 := Tryz.zeroValue3
 t4 := Tryz.underlying4
 a4 := Tryz.isAgg4
 z4 := Tryz.sizeOf4
 v4 := Tryz.zeroValue4
 t9 := Tryz.underlying9
 a9 := Tryz.isAgg9
 z9 := Tryz.sizeOf9
 v9 := Tryz.zeroValue9 }
open Go.RowKit Go.Lib in
theorem Tryz.strings_HasPrefix (s p : ByteArray) (w : World) :
  Calls Tryz.prog 155 #[.string s, .string p] w fun e w' => e = .returned (.bool (Lib.hasPrefix s.data.toList p.data.toList)) ∧ w' = w := Any.strings_HasPrefix Tryz.lays99 s p w
def Tryz.lays101_ren : Go.Shelf.Ren := ⟨fun | 101 => 145 | 208 => 183 | 206 => 190 | n => n, fun | 9 => 9 | 4 => 4 | 3 => 3 | n => n, fun | n => n⟩
theorem Tryz.lays101 : Go.Proofs.Lays.n101 Tryz.prog Tryz.lays101_ren := {
 mixed := by kernel_rfl
 f101 := Tryz.func145.trans (congrArg some (by kernel_rfl))
 f206 := Tryz.func190.trans (congrArg some (by kernel_rfl))
 f208 := Tryz.func183.trans (congrArg some (by kernel_rfl))
 t3 := Tryz.underlying3
 a3 := Tryz.isAgg3
 z3 := Tryz.sizeOf3
 v3 := Tryz.zeroValue3
 t4 := Tryz.underlying4
 a4 := Tryz.isAgg4
 z4 := Tryz.sizeOf4
 v4 := Tryz.zeroValue4
 t9 := Tryz.underlying9
 a9 := Tryz.isAgg9
 z9 := Tryz.sizeOf9
 v9 := Tryz.zeroValue9 }
open Go.RowKit Go.Lib in
theorem Tryz.strings_TrimPrefix (s p : ByteArray) (w : World) :
  Calls Tryz.prog 145 #[.string s, .string p] w fun e w' => e = .returned (.string ⟨(Lib.trimPrefix s.data.toList p.data.toList).toArray⟩) ∧ w' = w := Any.strings_TrimPrefix Tryz.lays101 s p w
end Go.Proofs
