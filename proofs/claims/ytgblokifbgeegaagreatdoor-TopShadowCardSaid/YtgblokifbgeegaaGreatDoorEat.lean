/- A part of the proof. -/
import Derived.Shelf.SlGeneric
import Derived.Shelf.Sort.Plain
import Derived.Shelf.Small.Wraps
import Derived.Shelf.Slices.In.SortNone
import Derived.Ground.Names2Prog
import Derived.Shelf.Slices.CompactI
import Derived.Shelf.Slices.Delete
import Derived.Shelf.Slices.Empties
import Derived.Test.YtgblokifbgeegaaGreatDoorProg
set_option linter.unusedVariables false
set_option linter.unusedSimpArgs false
namespace Go.Proofs
open Go.Shelf
def Tryz.lays189_ren : Go.Shelf.Ren := ⟨fun | 189 => 200 | 125 => 233 | 257 => 232 | 128 => 272 | 129 => 247 | 294 => 263 | 295 => 264 | 296 => 265 | 297 => 266 | 298 => 267 | 299 => 268 | 216 => 269 | 300 => 270 | 301 => 271 | 328 => 293 | 329 => 294 | 330 => 295 | 331 => 296 | 332 => 297 | 215 => 174 | 343 => 314 | n => n, fun | 28 => 40 | 3 => 3 | 46 => 278 | 0 => 0 | 51 => 291 | 53 => 254 | 4 => 4 | 183 => 306 | 182 => 305 | 131 => 311 | 5 => 5 | 9 => 9 | 218 => 328 | 222 => 332 | 228 => 354 | 229 => 355 | n => n, fun | n => n⟩
theorem Tryz.lays189 : Go.Proofs.Lays.n189 Tryz.prog Tryz.lays189_ren := {
 mixed := by kernel_rfl
 f125 := Tryz.func233.trans (congrArg some (by kernel_rfl))
 f128 := Tryz.func272.trans (congrArg some (by kernel_rfl))
 f129 := Tryz.func247.trans (congrArg some (by kernel_rfl))
 f189 := Tryz.func200.trans (congrArg some (by kernel_rfl))
 f215 := Tryz.func174.trans (congrArg some (by kernel_rfl))
 f216 := Tryz.func269.trans (congrArg some (by kernel_rfl))
 f257 := Tryz.func232.trans (congrArg some (by kernel_rfl))
 f294 := Tryz.func263.trans (congrArg some (by kernel_rfl))
 f295 := Tryz.func264.trans (congrArg some (by kernel_rfl))
 f296 := Tryz.func265.trans (congrArg some (by kernel_rfl))
 f297 := Tryz.func266.trans (congrArg some (by kernel_rfl))
 f298 := Tryz.func267.trans (congrArg some (by kernel_rfl))
 f299 := Tryz.func268.trans (congrArg some (by kernel_rfl))
 f300 := Tryz.func270.trans (congrArg some (by kernel_rfl))
 f301 := Tryz.func271.trans (congrArg some (by kernel_rfl))
 f328 := Tryz.func293.trans (congrArg some (by kernel_rfl))
 f329 := Tryz.func294.trans (congrArg some (by kernel_rfl))
 f330 := Tryz.func295.trans (congrArg some (by kernel_rfl))
 f331 := Tryz.func296.trans (congrArg some (by kernel_rfl))
 f332 := Tryz.func297.trans (congrArg some (by kernel_rfl))
 f343 := Tryz.func314.trans (congrArg some (by kernel_rfl))
 t0 := Tryz.underlying0
 a0 := Tryz.isAgg0
 z0 := Tryz.sizeOf0
 v0 := Tryz.zeroValue0
 t3 := Tryz.underlying3
 a3 := Tryz.isAgg3
 z3 := Tryz.sizeOf3
 v3 := Tryz.zeroValue3
 t4 := Tryz.underlying4
 a4 := Tryz.isAgg4
 z4 := Tryz.sizeOf4
 v4 := Tryz.zeroValue4
 t5 := Tryz.underlying5
 a5 := Tryz.isAgg5
 z5 := Tryz.sizeOf5
 v5 := Tryz.zeroValue5
 t9 := Tryz.underlying9
 a9 := Tryz.isAgg9
 z9 := Tryz.sizeOf9
 v9 := Tryz.zeroValue9
 t28 := Tryz.underlying40
 a28 := Tryz.isAgg40
 z28 := Tryz.sizeOf40
 v28 := Tryz.zeroValue40
 t46 := Tryz.underlying278
 a46 := Tryz.isAgg278
 z46 := Tryz.sizeOf278
 v46 := Tryz.zeroValue278
 t51 := Tryz.underlying291
 a51 := Tryz.isAgg291
 z51 := Tryz.sizeOf291
 v51 := Tryz.zeroValue291
 t53 := Tryz.underlying254
 a53 := Tryz.isAgg254
 z53 := Tryz.sizeOf254
 v53 := Tryz.zeroValue254
 t131 := Tryz.underlying311
 a131 := Tryz.isAgg311
 z131 := Tryz.sizeOf311
 v131 := Tryz.zeroValue311
 t182 := Tryz.underlying305
 a182 := Tryz.isAgg305
 z182 := Tryz.sizeOf305
 v182 := Tryz.zeroValue305
 t183 := Tryz.underlying306
 a183 := Tryz.isAgg306
 z183 := Tryz.sizeOf306
 v183 := Tryz.zeroValue306
 t218 := Tryz.underlying328
 a218 := Tryz.isAgg328
 z218 := Tryz.sizeOf328
 v218 := Tryz.zeroValue328
 t222 := Tryz.underlying332
 a222 := Tryz.isAgg332
 z222 := Tryz.sizeOf332
 v222 := Tryz.zeroValue332
 t228 := Tryz.underlying354
 a228 := Tryz.isAgg354
 z228 := Tryz.sizeOf354
 v228 := Tryz.zeroValue354
 t229 := Tryz.underlying355
 a229 := Tryz.isAgg355
 z229 := Tryz.sizeOf355
 v229 := Tryz.zeroValue355 }
open Go.Sort Go.RowKit in
theorem Tryz.slices_Sort_int (blk off cap : Nat) (zs : List Int) (w : World) (hH : Holds (Value.int .i64) w blk off zs.toArray) (hblk : blk < w.heap.size) (hsz : zs.length < 4611686018427387904) :
  Calls Tryz.prog 200 #[.slice (some ⟨blk, off, none⟩) zs.length cap] w fun e w' =>
   e = .returned (.tuple #[]) ∧ ∃ n os, w' = grow (putRow (Value.int .i64) (Sort.ahead w n) blk off (zs.mergeSort fun x y => decide (x ≤ y)).toArray) os := Any.slices_Sort_int Tryz.lays189 blk off cap zs w hH hblk hsz
def Tryz.laysNm220_ren : Go.Shelf.Ren := ⟨fun | 20 => 201 | n => n, fun | 22 => 40 | 3 => 3 | 4 => 4 | 0 => 0 | n => n, fun | n => n⟩
theorem Tryz.laysNm220 : Go.Proofs.Lays2.n20 Tryz.prog Tryz.laysNm220_ren := {
 mixed := by kernel_rfl
 f20 := Tryz.func201.trans (congrArg some (by kernel_rfl))
 t0 := Tryz.underlying0
 a0 := Tryz.isAgg0
 z0 := Tryz.sizeOf0
 v0 := Tryz.zeroValue0
 t3 := Tryz.underlying3
 a3 := Tryz.isAgg3
 z3 := Tryz.sizeOf3
 v3 := Tryz.zeroValue3
 t4 := Tryz.underlying4
 a4 := Tryz.isAgg4
 z4 := Tryz.sizeOf4
 v4 := Tryz.zeroValue4
 t22 := Tryz.underlying40
 a22 := Tryz.isAgg40
 z22 := Tryz.sizeOf40
 v22 := Tryz.zeroValue40
 i3 := by kernel_rfl }
open Go.RowKit Go.Lib Go.Sort in
theorem Tryz.slices_Compact_int (blk off cap : Nat) (zs : List Int) (w : World) (hH : Holds (Value.int .i64) w blk off zs.toArray) (hsz : zs.length ≤ 9223372036854775807) (hcap : zs.length ≤ cap) :
  Calls Tryz.prog 201 #[.slice (some ⟨blk, off, none⟩) zs.length cap] w fun e w' => e = .returned (.slice (some ⟨blk, off, none⟩) (Lib.compact zs).length cap) ∧ ∃ q, w' = putRow (Value.int .i64) (Sort.ahead w q) blk off (Lib.compact zs ++ List.replicate (zs.length - (Lib.compact zs).length) 0).toArray := Any.slices_Compact_int Tryz.laysNm220 blk off cap zs w hH hsz hcap
open Go.RowKit Go.Lib Go.Sort in
theorem Tryz.slices_Compact_int_empty (a : Option Addr) (cap : Nat) (w : World) :
  Calls Tryz.prog 201 #[.slice a 0 cap] w fun e w' => e = .returned (.slice a 0 cap) ∧ w' = w := Any.slices_Compact_int_empty Tryz.laysNm220 a cap w
def Tryz.laysNm223_ren : Go.Shelf.Ren := ⟨fun | 23 => 261 | n => n, fun | 22 => 40 | 3 => 3 | 4 => 4 | 0 => 0 | n => n, fun | n => n⟩
theorem Tryz.laysNm223 : Go.Proofs.Lays2.n23 Tryz.prog Tryz.laysNm223_ren := {
 mixed := by kernel_rfl
 f23 := Tryz.func261.trans (congrArg some (by kernel_rfl))
 t0 := Tryz.underlying0
 a0 := Tryz.isAgg0
 z0 := Tryz.sizeOf0
 v0 := Tryz.zeroValue0
 t3 := Tryz.underlying3
 a3 := Tryz.isAgg3
 z3 := Tryz.sizeOf3
 v3 := Tryz.zeroValue3
 t4 := Tryz.underlying4
 a4 := Tryz.isAgg4
 z4 := Tryz.sizeOf4
 v4 := Tryz.zeroValue4
 t22 := Tryz.underlying40
 a22 := Tryz.isAgg40
 z22 := Tryz.sizeOf40
 v22 := Tryz.zeroValue40
 i3 := by kernel_rfl }
open Go.RowKit Go.Lib Go.Sort in
theorem Tryz.slices_Delete_int (blk off cap i j : Nat) (zs : List Int) (w : World) (hH : Holds (Value.int .i64) w blk off zs.toArray) (hcap : zs.length ≤ cap) (hm : cap ≤ 9223372036854775807) (hij : i ≤ j) (hj : j ≤ zs.length) :
  Calls Tryz.prog 261 #[.slice (some ⟨blk, off, none⟩) zs.length cap, .int .i64 i, .int .i64 j] w fun e w' => e = .returned (.slice (some ⟨blk, off, none⟩) (zs.length - (j - i)) cap) ∧ ∃ q, w' = putRow (Value.int .i64) (Sort.ahead w q) blk off (zs.take i ++ zs.drop j ++ List.replicate (j - i) 0).toArray := Any.slices_Delete_int Tryz.laysNm223 blk off cap i j zs w hH hcap hm hij hj
open Go.RowKit Go.Sort in
theorem Tryz.slices_Sort_int_none (p : Option Addr) (cap : Nat) (w : World) :
  Calls Tryz.prog 200 #[.slice p 0 cap] w fun e w' => e = .returned (.tuple #[]) ∧ w' = w := Any.slices_Sort_int_none Tryz.lays189 p cap w
end Go.Proofs
