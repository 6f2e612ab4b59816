/- A part of the proofs that the laws of touch return true at every input and that the input reads behind the call as it read before; this part states nothing of its own that is claimed. -/
import Derived.Shelf.Strings.Builder1
import Derived.Shelf.Small.Utf8
import Derived.Shelf.Small.Bits
import Derived.Shelf.Small.Strs
import Derived.Shelf.Small.Wraps
import Derived.Shelf.Strconv.Atoi
import Derived.Shelf.Strconv.Itoa0
import Derived.Shelf.Strconv.Itoa1
import Derived.Shelf.LaysM
import Derived.Shelf.Strconv.Itoa2
import Derived.Shelf.Strconv.Itoa3
import Derived.Shelf.Strings.Search1
import Derived.Shelf.Strings.Search2
import Derived.Shelf.Strings.Cut
import Derived.Shelf.Strings.Prefix
import Derived.Shelf.Strings.AsciiSet
import Derived.Ground.Names2Prog
import Derived.Ground.SlsfProg
import Derived.Shelf.SlSortCmp.NoneTotal
import Derived.Shelf.SlSortCmp.WholeK
import Derived.Shelf.Strings.SlTrimAscii
import Derived.KernelRfl
import Derived.Test.YtgepmbjmaljgoaaGreatDoorProg
set_option linter.unusedVariables false
set_option linter.unusedSimpArgs false
section
/-
  DERIVED: THE SHELF's CONTRACTS AT THIS DUMP, IN PLAIN WORDS (tools/lay-plain.mjs out of 'TryzShelf2.lean', which tools/lay-shelf.mjs wrote): THE SAME DECLARATIONS UNDER THE SAME NAMES: 'import', 'namespace', 'open', 'def', 'theorem' AND NOTHING ELSE: no command of the shelf's: FOR A HAND-IN. Each laying: the table of numbers ('.._ren') and one theorem, a field a fact of the dump's own or the kernel's comparison; each contract: ONE APPLICATION.
-/
namespace Go.Proofs
open Go.Shelf
def Tryz.lays167_ren : Go.Shelf.Ren := ⟨fun | 167 => 276 | 240 => 300 | 276 => 327 | n => n, fun | 0 => 0 | 4 => 4 | 5 => 5 | 9 => 9 | 20 => 20 | 37 => 187 | 70 => 329 | 72 => 331 | 75 => 322 | 80 => 333 | 164 => 372 | n => n, fun | n => n⟩
theorem Tryz.lays167 : Go.Proofs.Lays.n167 Tryz.prog Tryz.lays167_ren := {
  mixed := by kernel_rfl
  f167 := Tryz.func276.trans (congrArg some (by kernel_rfl))
  f240 := Tryz.func300.trans (congrArg some (by kernel_rfl))
  f276 := Tryz.func327.trans (congrArg some (by kernel_rfl))
  t0 := Tryz.underlying0
  a0 := Tryz.isAgg0
  z0 := Tryz.sizeOf0
  v0 := Tryz.zeroValue0
  t4 := Tryz.underlying4
  a4 := Tryz.isAgg4
  z4 := Tryz.sizeOf4
  v4 := Tryz.zeroValue4
  t5 := Tryz.underlying5
  a5 := Tryz.isAgg5
  z5 := Tryz.sizeOf5
  v5 := Tryz.zeroValue5
  t9 := Tryz.underlying9
  a9 := Tryz.isAgg9
  z9 := Tryz.sizeOf9
  v9 := Tryz.zeroValue9
  t20 := Tryz.underlying20
  a20 := Tryz.isAgg20
  z20 := Tryz.sizeOf20
  v20 := Tryz.zeroValue20
  t37 := Tryz.underlying187
  a37 := Tryz.isAgg187
  z37 := Tryz.sizeOf187
  v37 := Tryz.zeroValue187
  t70 := Tryz.underlying329
  a70 := Tryz.isAgg329
  z70 := Tryz.sizeOf329
  v70 := Tryz.zeroValue329
  t72 := Tryz.underlying331
  a72 := Tryz.isAgg331
  z72 := Tryz.sizeOf331
  v72 := Tryz.zeroValue331
  t75 := Tryz.underlying322
  a75 := Tryz.isAgg322
  z75 := Tryz.sizeOf322
  v75 := Tryz.zeroValue322
  t164 := Tryz.underlying372
  a164 := Tryz.isAgg372
  z164 := Tryz.sizeOf372
  v164 := Tryz.zeroValue372 }
theorem Tryz.Builder_Extra_167 : Builder.Extra Tryz.prog Tryz.lays167_ren where
  sizeBuilder := by kernel_rfl
  liesBuilder := by kernel_rfl
  t5 := Tryz.underlying5
  a5 := Tryz.isAgg5
  z5 := Tryz.sizeOf5
  v5 := Tryz.zeroValue5
  infoByte := by kernel_rfl
  cellsByte := by kernel_rfl
  sizeByte := by kernel_rfl
  neB5 := by decide
open Go.RowKit in
theorem Tryz.Builder_WriteByte (B b : Nat) (bs : List Value) (c : Int) (w : World) (h : Lib.IsBuilder 331 5 B b bs w) (hlen : bs.length + 1 ≤ 140737488355328) (hBw : B ≤ w.heap.size) :
    Calls Tryz.prog 276 #[.pointer (some ⟨b, 0, none⟩), .int .u8 c] w fun e w' => e = .returned .nilIface ∧ (Lib.BuilderAt 331 5 B b (.pointer (some ⟨b, 0, none⟩)) (bs ++ [.int .u8 c]) w' ∧ Below B w w') := Any.Builder_WriteByte Tryz.lays167 Tryz.Builder_Extra_167 B b bs c w h hlen hBw
def Tryz.lays166_ren : Go.Shelf.Ren := ⟨fun | 166 => 277 | 240 => 300 | 276 => 327 | n => n, fun | 0 => 0 | 3 => 3 | 4 => 4 | 9 => 9 | 20 => 20 | 37 => 187 | 70 => 329 | 72 => 331 | 75 => 322 | 80 => 333 | 164 => 372 | n => n, fun | n => n⟩
theorem Tryz.lays166 : Go.Proofs.Lays.n166 Tryz.prog Tryz.lays166_ren := {
  mixed := by kernel_rfl
  f166 := Tryz.func277.trans (congrArg some (by kernel_rfl))
  f240 := Tryz.func300.trans (congrArg some (by kernel_rfl))
  f276 := Tryz.func327.trans (congrArg some (by kernel_rfl))
  t0 := Tryz.underlying0
  a0 := Tryz.isAgg0
  z0 := Tryz.sizeOf0
  v0 := Tryz.zeroValue0
  t3 := Tryz.underlying3
  a3 := Tryz.isAgg3
  z3 := Tryz.sizeOf3
  v3 := Tryz.zeroValue3
  t4 := Tryz.underlying4
  a4 := Tryz.isAgg4
  z4 := Tryz.sizeOf4
  v4 := Tryz.zeroValue4
  t9 := Tryz.underlying9
  a9 := Tryz.isAgg9
  z9 := Tryz.sizeOf9
  v9 := Tryz.zeroValue9
  t20 := Tryz.underlying20
  a20 := Tryz.isAgg20
  z20 := Tryz.sizeOf20
  v20 := Tryz.zeroValue20
  t37 := Tryz.underlying187
  a37 := Tryz.isAgg187
  z37 := Tryz.sizeOf187
  v37 := Tryz.zeroValue187
  t70 := Tryz.underlying329
  a70 := Tryz.isAgg329
  z70 := Tryz.sizeOf329
  v70 := Tryz.zeroValue329
  t72 := Tryz.underlying331
  a72 := Tryz.isAgg331
  z72 := Tryz.sizeOf331
  v72 := Tryz.zeroValue331
  t75 := Tryz.underlying322
  a75 := Tryz.isAgg322
  z75 := Tryz.sizeOf322
  v75 := Tryz.zeroValue322
  t164 := Tryz.underlying372
  a164 := Tryz.isAgg372
  z164 := Tryz.sizeOf372
  v164 := Tryz.zeroValue372 }
theorem Tryz.Builder_Extra_166 : Builder.Extra Tryz.prog Tryz.lays166_ren where
  sizeBuilder := by kernel_rfl
  liesBuilder := by kernel_rfl
  t5 := Tryz.underlying5
  a5 := Tryz.isAgg5
  z5 := Tryz.sizeOf5
  v5 := Tryz.zeroValue5
  infoByte := by kernel_rfl
  cellsByte := by kernel_rfl
  sizeByte := by kernel_rfl
  neB5 := by decide
open Go.RowKit in
theorem Tryz.Builder_WriteString (B b : Nat) (bs : List Value) (s : ByteArray) (w : World) (h : Lib.IsBuilder 331 5 B b bs w) (hlen : bs.length + s.size ≤ 140737488355328) (hBw : B ≤ w.heap.size) :
    Calls Tryz.prog 277 #[.pointer (some ⟨b, 0, none⟩), .string s] w fun e w' => e = .returned (.tuple #[.int .i64 s.size, .nilIface]) ∧ (Lib.BuilderAt 331 5 B b (.pointer (some ⟨b, 0, none⟩)) (bs ++ Lib.strCells s) w' ∧ Below B w w') := Any.Builder_WriteString Tryz.lays166 Tryz.Builder_Extra_166 B b bs s w h hlen hBw
def Tryz.lays169_ren : Go.Shelf.Ren := ⟨fun | 169 => 278 | n => n, fun | 70 => 329 | 9 => 9 | 0 => 0 | 72 => 331 | 37 => 187 | 127 => 354 | 3 => 3 | 5 => 5 | n => n, fun | n => n⟩
theorem Tryz.lays169 : Go.Proofs.Lays.n169 Tryz.prog Tryz.lays169_ren := {
  mixed := by kernel_rfl
  f169 := Tryz.func278.trans (congrArg some (by kernel_rfl))
  t0 := Tryz.underlying0
  a0 := Tryz.isAgg0
  z0 := Tryz.sizeOf0
  v0 := Tryz.zeroValue0
  t3 := Tryz.underlying3
  a3 := Tryz.isAgg3
  z3 := Tryz.sizeOf3
  v3 := Tryz.zeroValue3
  t9 := Tryz.underlying9
  a9 := Tryz.isAgg9
  z9 := Tryz.sizeOf9
  v9 := Tryz.zeroValue9
  t37 := Tryz.underlying187
  a37 := Tryz.isAgg187
  z37 := Tryz.sizeOf187
  v37 := Tryz.zeroValue187
  t70 := Tryz.underlying329
  a70 := Tryz.isAgg329
  z70 := Tryz.sizeOf329
  v70 := Tryz.zeroValue329
  t72 := Tryz.underlying331
  a72 := Tryz.isAgg331
  z72 := Tryz.sizeOf331
  v72 := Tryz.zeroValue331
  t127 := Tryz.underlying354
  a127 := Tryz.isAgg354
  z127 := Tryz.sizeOf354
  v127 := Tryz.zeroValue354 }
theorem Tryz.Builder_Extra_169 : Builder.Extra Tryz.prog Tryz.lays169_ren := {
  sizeBuilder := by kernel_rfl
  liesBuilder := by kernel_rfl
  t5 := Tryz.underlying5
  a5 := Tryz.isAgg5
  z5 := Tryz.sizeOf5
  v5 := Tryz.zeroValue5
  infoByte := by kernel_rfl
  cellsByte := by kernel_rfl
  sizeByte := by kernel_rfl
  neB5 := by decide }
open Go.RowKit in
theorem Tryz.Builder_String (B b : Nat) (l : List UInt8) (w : World) (h : Lib.IsBuilder 331 5 B b (Lib.byteCells l) w) (h0 : l ≠ []) :
    Calls Tryz.prog 278 #[.pointer (some ⟨b, 0, none⟩)] w fun e w' => e = .returned (.string ⟨l.toArray⟩) ∧ Below B w w' := Any.Builder_String Tryz.lays169 Tryz.Builder_Extra_169 B b l w h h0
def Tryz.lays160_ren : Go.Shelf.Ren := ⟨fun | 160 => 226 | 232 => 264 | 231 => 263 | 227 => 265 | 234 => 267 | 233 => 266 | 236 => 269 | 235 => 268 | 228 => 292 | 271 => 295 | 151 => 294 | 197 => 293 | 120 => 320 | 152 => 319 | 260 => 318 | 137 => 338 | 119 => 339 | 224 => 316 | 225 => 315 | 217 => 314 | 266 => 336 | n => n, fun | 9 => 9 | 4 => 4 | 3 => 3 | 5 => 5 | 117 => 317 | 116 => 316 | 0 => 0 | 124 => 320 | 21 => 21 | 105 => 349 | 46 => 207 | 119 => 381 | 139 => 384 | 138 => 383 | n => n, fun | 3 => 3 | 4 => 4 | n => n⟩
theorem Tryz.lays160 : Go.Proofs.Lays.n160 Tryz.prog Tryz.lays160_ren := {
  mixed := by kernel_rfl
  f119 := Tryz.func339.trans (congrArg some (by kernel_rfl))
  f120 := Tryz.func320.trans (congrArg some (by kernel_rfl))
  f137 := Tryz.func338.trans (congrArg some (by kernel_rfl))
  f151 := Tryz.func294.trans (congrArg some (by kernel_rfl))
  f152 := Tryz.func319.trans (congrArg some (by kernel_rfl))
  f160 := Tryz.func226.trans (congrArg some (by kernel_rfl))
  f197 := Tryz.func293.trans (congrArg some (by kernel_rfl))
  f217 := Tryz.func314.trans (congrArg some (by kernel_rfl))
  f224 := Tryz.func316.trans (congrArg some (by kernel_rfl))
  f225 := Tryz.func315.trans (congrArg some (by kernel_rfl))
  f227 := Tryz.func265.trans (congrArg some (by kernel_rfl))
  f228 := Tryz.func292.trans (congrArg some (by kernel_rfl))
  f231 := Tryz.func263.trans (congrArg some (by kernel_rfl))
  f232 := Tryz.func264.trans (congrArg some (by kernel_rfl))
  f233 := Tryz.func266.trans (congrArg some (by kernel_rfl))
  f234 := Tryz.func267.trans (congrArg some (by kernel_rfl))
  f235 := Tryz.func268.trans (congrArg some (by kernel_rfl))
  f236 := Tryz.func269.trans (congrArg some (by kernel_rfl))
  f260 := Tryz.func318.trans (congrArg some (by kernel_rfl))
  f266 := Tryz.func336.trans (congrArg some (by kernel_rfl))
  f271 := Tryz.func295.trans (congrArg some (by kernel_rfl))
  t0 := Tryz.underlying0
  a0 := Tryz.isAgg0
  z0 := Tryz.sizeOf0
  v0 := Tryz.zeroValue0
  t3 := Tryz.underlying3
  a3 := Tryz.isAgg3
  z3 := Tryz.sizeOf3
  v3 := Tryz.zeroValue3
  t4 := Tryz.underlying4
  a4 := Tryz.isAgg4
  z4 := Tryz.sizeOf4
  v4 := Tryz.zeroValue4
  t5 := Tryz.underlying5
  a5 := Tryz.isAgg5
  z5 := Tryz.sizeOf5
  v5 := Tryz.zeroValue5
  t9 := Tryz.underlying9
  a9 := Tryz.isAgg9
  z9 := Tryz.sizeOf9
  v9 := Tryz.zeroValue9
  t21 := Tryz.underlying21
  a21 := Tryz.isAgg21
  z21 := Tryz.sizeOf21
  v21 := Tryz.zeroValue21
  t46 := Tryz.underlying207
  a46 := Tryz.isAgg207
  z46 := Tryz.sizeOf207
  v46 := Tryz.zeroValue207
  t105 := Tryz.underlying349
  a105 := Tryz.isAgg349
  z105 := Tryz.sizeOf349
  v105 := Tryz.zeroValue349
  t116 := Tryz.underlying316
  a116 := Tryz.isAgg316
  z116 := Tryz.sizeOf316
  t117 := Tryz.underlying317
  a117 := Tryz.isAgg317
  z117 := Tryz.sizeOf317
  v117 := Tryz.zeroValue317
  t119 := Tryz.underlying381
  a119 := Tryz.isAgg381
  z119 := Tryz.sizeOf381
  t124 := Tryz.underlying320
  a124 := Tryz.isAgg320
  z124 := Tryz.sizeOf320
  v124 := Tryz.zeroValue320
  t138 := Tryz.underlying383
  a138 := Tryz.isAgg383
  z138 := Tryz.sizeOf383
  v138 := Tryz.zeroValue383
  t139 := Tryz.underlying384
  a139 := Tryz.isAgg384
  z139 := Tryz.sizeOf384
  v139 := Tryz.zeroValue384
  g3 := by kernel_rfl
  g4 := by kernel_rfl }
def Tryz.lays106_ren : Go.Shelf.Ren := ⟨fun | 106 => 270 | 213 => 296 | 265 => 321 | n => n, fun | 9 => 9 | 3 => 3 | n => n, fun | n => n⟩
theorem Tryz.lays106 : Go.Proofs.Lays.n106 Tryz.prog Tryz.lays106_ren := {
  mixed := by kernel_rfl
  f106 := Tryz.func270.trans (congrArg some (by kernel_rfl))
  f213 := Tryz.func296.trans (congrArg some (by kernel_rfl))
  f265 := Tryz.func321.trans (congrArg some (by kernel_rfl))
  t3 := Tryz.underlying3
  a3 := Tryz.isAgg3
  z3 := Tryz.sizeOf3
  v3 := Tryz.zeroValue3
  t9 := Tryz.underlying9
  a9 := Tryz.isAgg9
  z9 := Tryz.sizeOf9
  v9 := Tryz.zeroValue9 }
open Go.RowKit in
theorem Tryz.strings_Compare (a b : ByteArray) (w : World) :
    Calls Tryz.prog 270 #[.string a, .string b] w fun e w' => e = .returned (.int .i64 (Lib.compareBytes a.data.toList b.data.toList)) ∧ w' = w := Any.strings_Compare Tryz.lays106 a b w
open Go.RowKit in
def Tryz.lays172_ren : Go.Shelf.Ren := ⟨fun | 172 => 271 | 244 => 297 | 245 => 298 | 247 => 322 | 279 => 323 | 280 => 324 | 281 => 325 | 282 => 326 | 287 => 340 | 316 => 341 | 171 => 184 | 205 => 342 | 321 => 346 | 322 => 347 | 243 => 240 | 246 => 283 | 283 => 301 | 284 => 302 | 285 => 303 | 286 => 304 | 129 => 215 | 317 => 328 | 318 => 329 | 319 => 330 | 320 => 331 | 337 => 343 | 338 => 344 | n => n, fun | 9 => 9 | 3 => 3 | 75 => 322 | 76 => 323 | 4 => 4 | 5 => 5 | 167 => 366 | 37 => 187 | 0 => 0 | 85 => 367 | 2 => 2 | 168 => 369 | 53 => 268 | 175 => 386 | 46 => 207 | 210 => 389 | 127 => 354 | 145 => 396 | 143 => 394 | 21 => 21 | 171 => 355 | 173 => 357 | 212 => 375 | 51 => 266 | 20 => 20 | 213 => 376 | 232 => 397 | 233 => 398 | 80 => 333 | n => n, fun | 15 => 5 | 16 => 6 | 17 => 2 | 18 => 7 | 19 => 8 | n => n⟩
theorem Tryz.lays172 : Go.Proofs.Lays.n172 Tryz.prog Tryz.lays172_ren := {
  mixed := by kernel_rfl
  f129 := Tryz.func215.trans (congrArg some (by kernel_rfl))
  f171 := Tryz.func184.trans (congrArg some (by kernel_rfl))
  f172 := Tryz.func271.trans (congrArg some (by kernel_rfl))
  f205 := Tryz.func342.trans (congrArg some (by kernel_rfl))
  f243 := Tryz.func240.trans (congrArg some (by kernel_rfl))
  f244 := Tryz.func297.trans (congrArg some (by kernel_rfl))
  f245 := Tryz.func298.trans (congrArg some (by kernel_rfl))
  f246 := Tryz.func283.trans (congrArg some (by kernel_rfl))
  f247 := Tryz.func322.trans (congrArg some (by kernel_rfl))
  f279 := Tryz.func323.trans (congrArg some (by kernel_rfl))
  f280 := Tryz.func324.trans (congrArg some (by kernel_rfl))
  f281 := Tryz.func325.trans (congrArg some (by kernel_rfl))
  f282 := Tryz.func326.trans (congrArg some (by kernel_rfl))
  f283 := Tryz.func301.trans (congrArg some (by kernel_rfl))
  f284 := Tryz.func302.trans (congrArg some (by kernel_rfl))
  f285 := Tryz.func303.trans (congrArg some (by kernel_rfl))
  f286 := Tryz.func304.trans (congrArg some (by kernel_rfl))
  f287 := Tryz.func340.trans (congrArg some (by kernel_rfl))
  f316 := Tryz.func341.trans (congrArg some (by kernel_rfl))
  f317 := Tryz.func328.trans (congrArg some (by kernel_rfl))
  f318 := Tryz.func329.trans (congrArg some (by kernel_rfl))
  f319 := Tryz.func330.trans (congrArg some (by kernel_rfl))
  f320 := Tryz.func331.trans (congrArg some (by kernel_rfl))
  f321 := Tryz.func346.trans (congrArg some (by kernel_rfl))
  f322 := Tryz.func347.trans (congrArg some (by kernel_rfl))
  f337 := Tryz.func343.trans (congrArg some (by kernel_rfl))
  f338 := Tryz.func344.trans (congrArg some (by kernel_rfl))
  t0 := Tryz.underlying0
  a0 := Tryz.isAgg0
  z0 := Tryz.sizeOf0
  v0 := Tryz.zeroValue0
  t2 := Tryz.underlying2
  a2 := Tryz.isAgg2
  z2 := Tryz.sizeOf2
  v2 := Tryz.zeroValue2
  t3 := Tryz.underlying3
  a3 := Tryz.isAgg3
  z3 := Tryz.sizeOf3
  v3 := Tryz.zeroValue3
  t4 := Tryz.underlying4
  a4 := Tryz.isAgg4
  z4 := Tryz.sizeOf4
  v4 := Tryz.zeroValue4
  t5 := Tryz.underlying5
  a5 := Tryz.isAgg5
  z5 := Tryz.sizeOf5
  v5 := Tryz.zeroValue5
  t9 := Tryz.underlying9
  a9 := Tryz.isAgg9
  z9 := Tryz.sizeOf9
  v9 := Tryz.zeroValue9
  t20 := Tryz.underlying20
  a20 := Tryz.isAgg20
  z20 := Tryz.sizeOf20
  v20 := Tryz.zeroValue20
  t21 := Tryz.underlying21
  a21 := Tryz.isAgg21
  z21 := Tryz.sizeOf21
  v21 := Tryz.zeroValue21
  t37 := Tryz.underlying187
  a37 := Tryz.isAgg187
  z37 := Tryz.sizeOf187
  v37 := Tryz.zeroValue187
  t46 := Tryz.underlying207
  a46 := Tryz.isAgg207
  z46 := Tryz.sizeOf207
  v46 := Tryz.zeroValue207
  t51 := Tryz.underlying266
  a51 := Tryz.isAgg266
  z51 := Tryz.sizeOf266
  v51 := Tryz.zeroValue266
  t53 := Tryz.underlying268
  a53 := Tryz.isAgg268
  z53 := Tryz.sizeOf268
  v53 := Tryz.zeroValue268
  t75 := Tryz.underlying322
  a75 := Tryz.isAgg322
  z75 := Tryz.sizeOf322
  v75 := Tryz.zeroValue322
  t76 := Tryz.underlying323
  a76 := Tryz.isAgg323
  z76 := Tryz.sizeOf323
  v76 := Tryz.zeroValue323
  t85 := Tryz.underlying367
  a85 := Tryz.isAgg367
  z85 := Tryz.sizeOf367
  v85 := Tryz.zeroValue367
  t127 := Tryz.underlying354
  a127 := Tryz.isAgg354
  z127 := Tryz.sizeOf354
  v127 := Tryz.zeroValue354
  t143 := Tryz.underlying394
  a143 := Tryz.isAgg394
  z143 := Tryz.sizeOf394
  v143 := Tryz.zeroValue394
  t145 := Tryz.underlying396
  a145 := Tryz.isAgg396
  z145 := Tryz.sizeOf396
  v145 := Tryz.zeroValue396
  t167 := Tryz.underlying366
  a167 := Tryz.isAgg366
  z167 := Tryz.sizeOf366
  v167 := Tryz.zeroValue366
  t168 := Tryz.underlying369
  a168 := Tryz.isAgg369
  z168 := Tryz.sizeOf369
  v168 := Tryz.zeroValue369
  t171 := Tryz.underlying355
  a171 := Tryz.isAgg355
  z171 := Tryz.sizeOf355
  v171 := Tryz.zeroValue355
  t173 := Tryz.underlying357
  a173 := Tryz.isAgg357
  z173 := Tryz.sizeOf357
  v173 := Tryz.zeroValue357
  t175 := Tryz.underlying386
  a175 := Tryz.isAgg386
  z175 := Tryz.sizeOf386
  v175 := Tryz.zeroValue386
  t210 := Tryz.underlying389
  a210 := Tryz.isAgg389
  z210 := Tryz.sizeOf389
  v210 := Tryz.zeroValue389
  t212 := Tryz.underlying375
  a212 := Tryz.isAgg375
  z212 := Tryz.sizeOf375
  v212 := Tryz.zeroValue375
  t213 := Tryz.underlying376
  a213 := Tryz.isAgg376
  z213 := Tryz.sizeOf376
  t232 := Tryz.underlying397
  a232 := Tryz.isAgg397
  z232 := Tryz.sizeOf397
  v232 := Tryz.zeroValue397
  t233 := Tryz.underlying398
  a233 := Tryz.isAgg398
  z233 := Tryz.sizeOf398
  v233 := Tryz.zeroValue398
  g15 := by kernel_rfl
  g16 := by kernel_rfl
  g17 := by kernel_rfl
  g18 := by kernel_rfl
  g19 := by kernel_rfl }
open Go.RowKit in
theorem Tryz.strconv_Atoi (s : ByteArray) (n : Int) (hl : s.size ≤ 18) (h : Lib.atoi s.data.toList = some n) (w : World) :
    Calls Tryz.prog 271 #[.string s] w fun e w' => e = .returned (.tuple #[.int .i64 n, .nilIface]) ∧ ∃ t, w' = Lib.bytesWorld w 5 t := Any.strconv_Atoi Tryz.lays172 s n hl h w
def Tryz.laysM171_ren : Go.Shelf.Ren := ⟨fun | 171 => 184 | 243 => 240 | 246 => 283 | 283 => 301 | 284 => 302 | 285 => 303 | 286 => 304 | 129 => 215 | 317 => 328 | 318 => 329 | 319 => 330 | 320 => 331 | 337 => 343 | 338 => 344 | n => n, fun | 3 => 3 | 9 => 9 | 2 => 2 | 4 => 4 | 171 => 355 | 0 => 0 | 53 => 268 | 37 => 187 | 5 => 5 | 173 => 357 | 212 => 375 | 51 => 266 | 20 => 20 | 213 => 376 | 46 => 207 | 232 => 397 | 233 => 398 | n => n, fun | 17 => 2 | 18 => 7 | 19 => 8 | n => n⟩
theorem Tryz.laysM171 : Go.Proofs.LaysM.n171 Tryz.prog Tryz.laysM171_ren := {
  mixed := by kernel_rfl
  f129 := Tryz.func215.trans (congrArg some (by kernel_rfl))
  f171 := Tryz.func184.trans (congrArg some (by kernel_rfl))
  f243 := Tryz.func240.trans (congrArg some (by kernel_rfl))
  f246 := Tryz.func283.trans (congrArg some (by kernel_rfl))
  f283 := Tryz.func301.trans (congrArg some (by kernel_rfl))
  f284 := Tryz.func302.trans (congrArg some (by kernel_rfl))
  f285 := Tryz.func303.trans (congrArg some (by kernel_rfl))
  f286 := Tryz.func304.trans (congrArg some (by kernel_rfl))
  f317 := Tryz.func328.trans (congrArg some (by kernel_rfl))
  f318 := Tryz.func329.trans (congrArg some (by kernel_rfl))
  f319 := Tryz.func330.trans (congrArg some (by kernel_rfl))
  f320 := Tryz.func331.trans (congrArg some (by kernel_rfl))
  f337 := Tryz.func343.trans (congrArg some (by kernel_rfl))
  f338 := Tryz.func344.trans (congrArg some (by kernel_rfl))
  t0 := Tryz.underlying0
  a0 := Tryz.isAgg0
  z0 := Tryz.sizeOf0
  v0 := Tryz.zeroValue0
  t2 := Tryz.underlying2
  a2 := Tryz.isAgg2
  z2 := Tryz.sizeOf2
  v2 := Tryz.zeroValue2
  t3 := Tryz.underlying3
  a3 := Tryz.isAgg3
  z3 := Tryz.sizeOf3
  v3 := Tryz.zeroValue3
  t4 := Tryz.underlying4
  a4 := Tryz.isAgg4
  z4 := Tryz.sizeOf4
  v4 := Tryz.zeroValue4
  t5 := Tryz.underlying5
  a5 := Tryz.isAgg5
  z5 := Tryz.sizeOf5
  v5 := Tryz.zeroValue5
  t9 := Tryz.underlying9
  a9 := Tryz.isAgg9
  z9 := Tryz.sizeOf9
  v9 := Tryz.zeroValue9
  t20 := Tryz.underlying20
  a20 := Tryz.isAgg20
  z20 := Tryz.sizeOf20
  v20 := Tryz.zeroValue20
  t37 := Tryz.underlying187
  a37 := Tryz.isAgg187
  z37 := Tryz.sizeOf187
  v37 := Tryz.zeroValue187
  t46 := Tryz.underlying207
  a46 := Tryz.isAgg207
  z46 := Tryz.sizeOf207
  v46 := Tryz.zeroValue207
  t51 := Tryz.underlying266
  a51 := Tryz.isAgg266
  z51 := Tryz.sizeOf266
  v51 := Tryz.zeroValue266
  t53 := Tryz.underlying268
  a53 := Tryz.isAgg268
  z53 := Tryz.sizeOf268
  v53 := Tryz.zeroValue268
  t171 := Tryz.underlying355
  a171 := Tryz.isAgg355
  z171 := Tryz.sizeOf355
  v171 := Tryz.zeroValue355
  t173 := Tryz.underlying357
  a173 := Tryz.isAgg357
  z173 := Tryz.sizeOf357
  v173 := Tryz.zeroValue357
  t212 := Tryz.underlying375
  a212 := Tryz.isAgg375
  z212 := Tryz.sizeOf375
  v212 := Tryz.zeroValue375
  t213 := Tryz.underlying376
  a213 := Tryz.isAgg376
  z213 := Tryz.sizeOf376
  t232 := Tryz.underlying397
  a232 := Tryz.isAgg397
  z232 := Tryz.sizeOf397
  v232 := Tryz.zeroValue397
  t233 := Tryz.underlying398
  a233 := Tryz.isAgg398
  z233 := Tryz.sizeOf398
  v233 := Tryz.zeroValue398
  g17 := by kernel_rfl
  g18 := by kernel_rfl
  g19 := by kernel_rfl
  i0 := by kernel_rfl
  i2 := by kernel_rfl
  i3 := by kernel_rfl
  i4 := by kernel_rfl
  i5 := by kernel_rfl
  i9 := by kernel_rfl
  i20 := by kernel_rfl
  i37 := by kernel_rfl
  i46 := by kernel_rfl
  i51 := by kernel_rfl
  i53 := by kernel_rfl
  i171 := by kernel_rfl
  i173 := by kernel_rfl
  i212 := by kernel_rfl
  i232 := by kernel_rfl
  i233 := by kernel_rfl
  m17 := by kernel_rfl
  m18 := by kernel_rfl
  m19 := by kernel_rfl }
open Go.RowKit Go.Sort Go.Lib in
theorem Tryz.strconv_Itoa (n : Int) (h0 : -9223372036854775808 ≤ n) (h1 : n ≤ 9223372036854775807) (w : World) (htab : Lib.TabIs Tryz.prog w "internal/strconv.uint64pow10" .u64 Lib.pow10Tab) :
    Calls Tryz.prog 184 #[.int .i64 n] w fun e w' => e = .returned (.string ⟨(Lib.itoa n).toArray⟩) ∧ ∃ k os, w' = grow (w.drewN k) os := Any.strconv_Itoa Tryz.laysM171 n h0 h1 w htab
def Tryz.lays145_ren : Go.Shelf.Ren := ⟨fun | 145 => 224 | 220 => 261 | 219 => 291 | 217 => 314 | 225 => 315 | 224 => 316 | 267 => 317 | 266 => 336 | 314 => 337 | n => n, fun | 9 => 9 | 4 => 4 | 59 => 276 | 3 => 3 | 5 => 5 | 46 => 207 | 146 => 379 | 51 => 266 | n => n, fun | 1 => 1 | n => n⟩
theorem Tryz.lays145 : Go.Proofs.Lays.n145 Tryz.prog Tryz.lays145_ren := {
  mixed := by kernel_rfl
  f145 := Tryz.func224.trans (congrArg some (by kernel_rfl))
  f217 := Tryz.func314.trans (congrArg some (by kernel_rfl))
  f219 := Tryz.func291.trans (congrArg some (by kernel_rfl))
  f220 := Tryz.func261.trans (congrArg some (by kernel_rfl))
  f224 := Tryz.func316.trans (congrArg some (by kernel_rfl))
  f225 := Tryz.func315.trans (congrArg some (by kernel_rfl))
  f266 := Tryz.func336.trans (congrArg some (by kernel_rfl))
  f267 := Tryz.func317.trans (congrArg some (by kernel_rfl))
  f314 := Tryz.func337.trans (congrArg some (by kernel_rfl))
  t3 := Tryz.underlying3
  a3 := Tryz.isAgg3
  z3 := Tryz.sizeOf3
  v3 := Tryz.zeroValue3
  t4 := Tryz.underlying4
  a4 := Tryz.isAgg4
  z4 := Tryz.sizeOf4
  v4 := Tryz.zeroValue4
  t5 := Tryz.underlying5
  a5 := Tryz.isAgg5
  z5 := Tryz.sizeOf5
  v5 := Tryz.zeroValue5
  t9 := Tryz.underlying9
  a9 := Tryz.isAgg9
  z9 := Tryz.sizeOf9
  v9 := Tryz.zeroValue9
  t46 := Tryz.underlying207
  a46 := Tryz.isAgg207
  z46 := Tryz.sizeOf207
  v46 := Tryz.zeroValue207
  t51 := Tryz.underlying266
  a51 := Tryz.isAgg266
  z51 := Tryz.sizeOf266
  v51 := Tryz.zeroValue266
  t59 := Tryz.underlying276
  a59 := Tryz.isAgg276
  z59 := Tryz.sizeOf276
  v59 := Tryz.zeroValue276
  t146 := Tryz.underlying379
  a146 := Tryz.isAgg379
  z146 := Tryz.sizeOf379
  v146 := Tryz.zeroValue379
  g1 := by kernel_rfl }
open Go.RowKit Go.Lib in
theorem Tryz.strings_Cut (s sep : ByteArray) (m : Int) (w : World) (hs : s.size < 4294967281) (hm : w.cell? ⟨1, 0, none⟩ = some (.int .i64 m)) :
    Calls Tryz.prog 224 #[.string s, .string sep] w fun e w' => e = .returned (.tuple #[.string ⟨(Lib.cut s.data.toList sep.data.toList).1.toArray⟩, .string ⟨(Lib.cut s.data.toList sep.data.toList).2.1.toArray⟩, .bool (Lib.cut s.data.toList sep.data.toList).2.2]) ∧ ∃ n, w' = w.drewN n := Any.strings_Cut Tryz.lays145 s sep m w hs hm
def Tryz.lays99_ren : Go.Shelf.Ren := ⟨fun | 99 => 234 | 206 => 281 | n => n, fun | 9 => 9 | 4 => 4 | 3 => 3 | n => n, fun | n => n⟩
theorem Tryz.lays99 : Go.Proofs.Lays.n99 Tryz.prog Tryz.lays99_ren := {
  mixed := by kernel_rfl
  f99 := Tryz.func234.trans (congrArg some (by kernel_rfl))
  f206 := Tryz.func281.trans (congrArg some (by kernel_rfl))
  t3 := Tryz.underlying3
  a3 := Tryz.isAgg3
  z3 := Tryz.sizeOf3
  v3 := Tryz.zeroValue3
  t4 := Tryz.underlying4
  a4 := Tryz.isAgg4
  z4 := Tryz.sizeOf4
  v4 := Tryz.zeroValue4
  t9 := Tryz.underlying9
  a9 := Tryz.isAgg9
  z9 := Tryz.sizeOf9
  v9 := Tryz.zeroValue9 }
open Go.RowKit Go.Lib in
theorem Tryz.strings_HasPrefix (s p : ByteArray) (w : World) :
    Calls Tryz.prog 234 #[.string s, .string p] w fun e w' => e = .returned (.bool (Lib.hasPrefix s.data.toList p.data.toList)) ∧ w' = w := Any.strings_HasPrefix Tryz.lays99 s p w
def Tryz.lays101_ren : Go.Shelf.Ren := ⟨fun | 101 => 225 | 208 => 262 | 206 => 281 | n => n, fun | 9 => 9 | 4 => 4 | 3 => 3 | n => n, fun | n => n⟩
theorem Tryz.lays101 : Go.Proofs.Lays.n101 Tryz.prog Tryz.lays101_ren := {
  mixed := by kernel_rfl
  f101 := Tryz.func225.trans (congrArg some (by kernel_rfl))
  f206 := Tryz.func281.trans (congrArg some (by kernel_rfl))
  f208 := Tryz.func262.trans (congrArg some (by kernel_rfl))
  t3 := Tryz.underlying3
  a3 := Tryz.isAgg3
  z3 := Tryz.sizeOf3
  v3 := Tryz.zeroValue3
  t4 := Tryz.underlying4
  a4 := Tryz.isAgg4
  z4 := Tryz.sizeOf4
  v4 := Tryz.zeroValue4
  t9 := Tryz.underlying9
  a9 := Tryz.isAgg9
  z9 := Tryz.sizeOf9
  v9 := Tryz.zeroValue9 }
open Go.RowKit Go.Lib in
theorem Tryz.strings_TrimPrefix (s p : ByteArray) (w : World) :
    Calls Tryz.prog 225 #[.string s, .string p] w fun e w' => e = .returned (.string ⟨(Lib.trimPrefix s.data.toList p.data.toList).toArray⟩) ∧ w' = w := Any.strings_TrimPrefix Tryz.lays101 s p w
def Tryz.laysSlF06_f96_ren : Go.Shelf.Ren := ⟨fun | 6 => 96 | 15 => 160 | 14 => 159 | 28 => 214 | 29 => 215 | 20 => 206 | 21 => 207 | 22 => 208 | 23 => 209 | 24 => 210 | 25 => 211 | 26 => 212 | 27 => 213 | 46 => 252 | 47 => 253 | 48 => 254 | 49 => 255 | 50 => 256 | 57 => 288 | n => n, fun | 22 => 25 | 24 => 42 | 25 => 145 | 3 => 3 | 39 => 207 | 0 => 0 | 53 => 266 | 55 => 268 | 4 => 4 | 46 => 259 | 45 => 258 | 50 => 263 | 5 => 5 | 9 => 9 | 66 => 305 | 70 => 309 | 76 => 343 | 77 => 344 | n => n, fun | n => n⟩
theorem Tryz.laysSlF06_f96 : Go.Proofs.SlLaysF0.n6 Tryz.prog Tryz.laysSlF06_f96_ren := {
  mixed := by kernel_rfl
  f6 := ⟨Tryz.f96.name, by decide, Tryz.func96.trans (congrArg some (by kernel_rfl))⟩
  f14 := ⟨Tryz.f159.name, by decide, Tryz.func159.trans (congrArg some (by kernel_rfl))⟩
  f15 := Tryz.func160.trans (congrArg some (by kernel_rfl))
  f20 := ⟨Tryz.f206.name, by decide, Tryz.func206.trans (congrArg some (by kernel_rfl))⟩
  f21 := ⟨Tryz.f207.name, by decide, Tryz.func207.trans (congrArg some (by kernel_rfl))⟩
  f22 := ⟨Tryz.f208.name, by decide, Tryz.func208.trans (congrArg some (by kernel_rfl))⟩
  f23 := ⟨Tryz.f209.name, by decide, Tryz.func209.trans (congrArg some (by kernel_rfl))⟩
  f24 := ⟨Tryz.f210.name, by decide, Tryz.func210.trans (congrArg some (by kernel_rfl))⟩
  f25 := ⟨Tryz.f211.name, by decide, Tryz.func211.trans (congrArg some (by kernel_rfl))⟩
  f26 := ⟨Tryz.f212.name, by decide, Tryz.func212.trans (congrArg some (by kernel_rfl))⟩
  f27 := ⟨Tryz.f213.name, by decide, Tryz.func213.trans (congrArg some (by kernel_rfl))⟩
  f28 := Tryz.func214.trans (congrArg some (by kernel_rfl))
  f29 := Tryz.func215.trans (congrArg some (by kernel_rfl))
  f46 := ⟨Tryz.f252.name, by decide, Tryz.func252.trans (congrArg some (by kernel_rfl))⟩
  f47 := Tryz.func253.trans (congrArg some (by kernel_rfl))
  f48 := Tryz.func254.trans (congrArg some (by kernel_rfl))
  f49 := ⟨Tryz.f255.name, by decide, Tryz.func255.trans (congrArg some (by kernel_rfl))⟩
  f50 := ⟨Tryz.f256.name, by decide, Tryz.func256.trans (congrArg some (by kernel_rfl))⟩
  f57 := ⟨Tryz.f288.name, by decide, Tryz.func288.trans (congrArg some (by kernel_rfl))⟩
  t0 := Tryz.underlying0
  a0 := Tryz.isAgg0
  z0 := Tryz.sizeOf0
  v0 := Tryz.zeroValue0
  t3 := Tryz.underlying3
  a3 := Tryz.isAgg3
  z3 := Tryz.sizeOf3
  v3 := Tryz.zeroValue3
  t4 := Tryz.underlying4
  a4 := Tryz.isAgg4
  z4 := Tryz.sizeOf4
  v4 := Tryz.zeroValue4
  t5 := Tryz.underlying5
  a5 := Tryz.isAgg5
  z5 := Tryz.sizeOf5
  v5 := Tryz.zeroValue5
  t9 := Tryz.underlying9
  a9 := Tryz.isAgg9
  z9 := Tryz.sizeOf9
  v9 := Tryz.zeroValue9
  t22 := Tryz.underlying25
  a22 := Tryz.isAgg25
  z22 := Tryz.sizeOf25
  v22 := Tryz.zeroValue25
  t25 := Tryz.underlying145
  a25 := Tryz.isAgg145
  z25 := Tryz.sizeOf145
  v25 := Tryz.zeroValue145
  t39 := Tryz.underlying207
  a39 := Tryz.isAgg207
  z39 := Tryz.sizeOf207
  v39 := Tryz.zeroValue207
  t45 := Tryz.underlying258
  a45 := Tryz.isAgg258
  z45 := Tryz.sizeOf258
  v45 := Tryz.zeroValue258
  t46 := Tryz.underlying259
  a46 := Tryz.isAgg259
  z46 := Tryz.sizeOf259
  v46 := Tryz.zeroValue259
  t50 := Tryz.underlying263
  a50 := Tryz.isAgg263
  z50 := Tryz.sizeOf263
  v50 := Tryz.zeroValue263
  t53 := Tryz.underlying266
  a53 := Tryz.isAgg266
  z53 := Tryz.sizeOf266
  v53 := Tryz.zeroValue266
  t55 := Tryz.underlying268
  a55 := Tryz.isAgg268
  z55 := Tryz.sizeOf268
  v55 := Tryz.zeroValue268
  t66 := Tryz.underlying305
  a66 := Tryz.isAgg305
  z66 := Tryz.sizeOf305
  v66 := Tryz.zeroValue305
  t70 := Tryz.underlying309
  a70 := Tryz.isAgg309
  z70 := Tryz.sizeOf309
  v70 := Tryz.zeroValue309
  t76 := Tryz.underlying343
  a76 := Tryz.isAgg343
  z76 := Tryz.sizeOf343
  v76 := Tryz.zeroValue343
  t77 := Tryz.underlying344
  a77 := Tryz.isAgg344
  z77 := Tryz.sizeOf344
  v77 := Tryz.zeroValue344 }
end Go.Proofs
end
