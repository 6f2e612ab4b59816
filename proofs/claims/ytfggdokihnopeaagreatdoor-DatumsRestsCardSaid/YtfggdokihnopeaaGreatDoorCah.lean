/- A part of the proof. -/
import Derived.Test.YtfggdokihnopeaaGreatDoorProg
import Derived.KernelRfl
import Derived.Test.YtfggdokihnopeaaGreatDoorCad
set_option linter.unusedVariables false
set_option linter.unusedSimpArgs false
namespace Go.Proofs.YtfggdokihnopeaaGreatDoor
open Go Go.Vc Go.RowKit
instance tc3 : CellTy Tryz.prog 3 := ⟨fun w => by kernel_rfl⟩
instance tn3 : SizeTy Tryz.prog 3 1 := ⟨fun w => by kernel_rfl⟩
instance ti3 : IntTy Tryz.prog 3 .i64 := ⟨by kernel_rfl⟩
instance tc4 : CellTy Tryz.prog 4 := ⟨fun w => by kernel_rfl⟩
instance tn4 : SizeTy Tryz.prog 4 1 := ⟨fun w => by kernel_rfl⟩
instance tb4 : BoolTy Tryz.prog 4 := ⟨by kernel_rfl⟩
instance tn5 : SizeTy Tryz.prog 5 1 := ⟨fun w => by kernel_rfl⟩
instance ti5 : IntTy Tryz.prog 5 .u8 := ⟨by kernel_rfl⟩
instance tx9 : StrTy Tryz.prog 9 := ⟨by kernel_rfl⟩
instance ta22 : AggTy Tryz.prog 22 3 := ⟨fun w => by kernel_rfl, fun w => by kernel_rfl⟩
instance tn22 : SizeTy Tryz.prog 22 3 := ⟨fun w => by kernel_rfl⟩
instance tr22 : ArrTy Tryz.prog 22 3 3 1 := ⟨by kernel_rfl, fun w => by kernel_rfl⟩
theorem Z1M (x0 x1 x2 : Int) : Tryz.prog.built 22 [(0, .int .i64 x0), (1, .int .i64 x1), (2, .int .i64 x2)] = some #[.int .i64 x0, .int .i64 x1, .int .i64 x2] := by kernel_rfl
instance tz22 : ZeroTy Tryz.prog 22 [.int .i64 0, .int .i64 0, .int .i64 0] := ⟨.agg #[.int .i64 0, .int .i64 0, .int .i64 0], fun w => by kernel_rfl, rfl⟩
instance tc23 : CellTy Tryz.prog 23 := ⟨fun w => by kernel_rfl⟩
instance tn23 : SizeTy Tryz.prog 23 1 := ⟨fun w => by kernel_rfl⟩
instance ts23 : SlTy Tryz.prog 23 43 3 := ⟨by kernel_rfl, fun w => by kernel_rfl⟩
instance ta24 : AggTy Tryz.prog 24 3 := ⟨fun w => by kernel_rfl, fun w => by kernel_rfl⟩
instance tr24 : ArrTy Tryz.prog 24 3 23 1 := ⟨by kernel_rfl, fun w => by kernel_rfl⟩
instance ta26 : AggTy Tryz.prog 26 9 := ⟨fun w => by kernel_rfl, fun w => by kernel_rfl⟩
instance tn26 : SizeTy Tryz.prog 26 9 := ⟨fun w => by kernel_rfl⟩
instance tf26_0 : FldTy Tryz.prog 26 0 0 := ⟨fun b o w => by kernel_rfl⟩
instance tf26_1 : FldTy Tryz.prog 26 1 3 := ⟨fun b o w => by kernel_rfl⟩
instance tf26_2 : FldTy Tryz.prog 26 2 6 := ⟨fun b o w => by kernel_rfl⟩
instance tz26 : ZeroTy Tryz.prog 26 [.int .i64 0, .int .i64 0, .int .i64 0, .int .i64 0, .int .i64 0, .int .i64 0, .slice none 0 0, .slice none 0 0, .slice none 0 0] := ⟨.agg #[.int .i64 0, .int .i64 0, .int .i64 0, .int .i64 0, .int .i64 0, .int .i64 0, .slice none 0 0, .slice none 0 0, .slice none 0 0], fun w => by kernel_rfl, rfl⟩
instance tc29 : CellTy Tryz.prog 29 := ⟨fun w => by kernel_rfl⟩
instance tn29 : SizeTy Tryz.prog 29 1 := ⟨fun w => by kernel_rfl⟩
instance tz29 : ZeroTy Tryz.prog 29 [.slice none 0 0] := ⟨.slice none 0 0, fun w => by kernel_rfl, rfl⟩
instance ts29 : SlTy Tryz.prog 29 40 9 := ⟨by kernel_rfl, fun w => by kernel_rfl⟩
instance tc30 : CellTy Tryz.prog 30 := ⟨fun w => by kernel_rfl⟩
instance tn30 : SizeTy Tryz.prog 30 1 := ⟨fun w => by kernel_rfl⟩
instance tz30 : ZeroTy Tryz.prog 30 [.int .i64 0] := ⟨.int .i64 0, fun w => by kernel_rfl, rfl⟩
instance tc33 : CellTy Tryz.prog 33 := ⟨fun w => by kernel_rfl⟩
instance tn33 : SizeTy Tryz.prog 33 1 := ⟨fun w => by kernel_rfl⟩
instance tx33 : StrTy Tryz.prog 33 := ⟨by kernel_rfl⟩
instance ta34 : AggTy Tryz.prog 34 3 := ⟨fun w => by kernel_rfl, fun w => by kernel_rfl⟩
instance tn34 : SizeTy Tryz.prog 34 3 := ⟨fun w => by kernel_rfl⟩
instance tr34 : ArrTy Tryz.prog 34 3 33 1 := ⟨by kernel_rfl, fun w => by kernel_rfl⟩
instance tz34 : ZeroTy Tryz.prog 34 [.string ⟨#[]⟩, .string ⟨#[]⟩, .string ⟨#[]⟩] := ⟨.agg #[.string ⟨#[]⟩, .string ⟨#[]⟩, .string ⟨#[]⟩], fun w => by kernel_rfl, rfl⟩
instance ta36 : AggTy Tryz.prog 36 6 := ⟨fun w => by kernel_rfl, fun w => by kernel_rfl⟩
instance tn36 : SizeTy Tryz.prog 36 6 := ⟨fun w => by kernel_rfl⟩
instance tf36_0 : FldTy Tryz.prog 36 0 0 := ⟨fun b o w => by kernel_rfl⟩
instance tf36_1 : FldTy Tryz.prog 36 1 3 := ⟨fun b o w => by kernel_rfl⟩
instance tz36 : ZeroTy Tryz.prog 36 [.string ⟨#[]⟩, .string ⟨#[]⟩, .string ⟨#[]⟩, .string ⟨#[]⟩, .string ⟨#[]⟩, .string ⟨#[]⟩] := ⟨.agg #[.string ⟨#[]⟩, .string ⟨#[]⟩, .string ⟨#[]⟩, .string ⟨#[]⟩, .string ⟨#[]⟩, .string ⟨#[]⟩], fun w => by kernel_rfl, rfl⟩
instance tc37 : CellTy Tryz.prog 37 := ⟨fun w => by kernel_rfl⟩
instance tn37 : SizeTy Tryz.prog 37 1 := ⟨fun w => by kernel_rfl⟩
theorem Y1l (x0 : Int) (w : World) : (Instr.buildSlice 37 1 #[(0, .int .i64 x0)]).run Tryz.prog w = .ok (.slice (some ⟨w.heap.size, 0, none⟩) 1 1) (w.alloc (.cells #[.int .i64 x0] 3)) := by kernel_rfl
instance ts37 : SlTy Tryz.prog 37 3 1 := ⟨by kernel_rfl, fun w => by kernel_rfl⟩
instance ta38 : AggTy Tryz.prog 38 3 := ⟨fun w => by kernel_rfl, fun w => by kernel_rfl⟩
instance tr38 : ArrTy Tryz.prog 38 3 37 1 := ⟨by kernel_rfl, fun w => by kernel_rfl⟩
instance ta40 : AggTy Tryz.prog 40 9 := ⟨fun w => by kernel_rfl, fun w => by kernel_rfl⟩
instance tn40 : SizeTy Tryz.prog 40 9 := ⟨fun w => by kernel_rfl⟩
instance tf40_0 : FldTy Tryz.prog 40 0 0 := ⟨fun b o w => by kernel_rfl⟩
instance tf40_1 : FldTy Tryz.prog 40 1 6 := ⟨fun b o w => by kernel_rfl⟩
instance tz40 : ZeroTy Tryz.prog 40 [.string ⟨#[]⟩, .string ⟨#[]⟩, .string ⟨#[]⟩, .string ⟨#[]⟩, .string ⟨#[]⟩, .string ⟨#[]⟩, .slice none 0 0, .slice none 0 0, .slice none 0 0] := ⟨.agg #[.string ⟨#[]⟩, .string ⟨#[]⟩, .string ⟨#[]⟩, .string ⟨#[]⟩, .string ⟨#[]⟩, .string ⟨#[]⟩, .slice none 0 0, .slice none 0 0, .slice none 0 0], fun w => by kernel_rfl, rfl⟩
instance ta43 : AggTy Tryz.prog 43 3 := ⟨fun w => by kernel_rfl, fun w => by kernel_rfl⟩
instance tn43 : SizeTy Tryz.prog 43 3 := ⟨fun w => by kernel_rfl⟩
instance tf43_0 : FldTy Tryz.prog 43 0 0 := ⟨fun b o w => by kernel_rfl⟩
instance tf43_1 : FldTy Tryz.prog 43 1 1 := ⟨fun b o w => by kernel_rfl⟩
instance tf43_2 : FldTy Tryz.prog 43 2 2 := ⟨fun b o w => by kernel_rfl⟩
instance tz43 : ZeroTy Tryz.prog 43 [.int .i64 0, .int .i64 0, .int .i64 0] := ⟨.agg #[.int .i64 0, .int .i64 0, .int .i64 0], fun w => by kernel_rfl, rfl⟩
instance ta50 : AggTy Tryz.prog 50 9 := ⟨fun w => by kernel_rfl, fun w => by kernel_rfl⟩
instance tn50 : SizeTy Tryz.prog 50 9 := ⟨fun w => by kernel_rfl⟩
instance tf50_0 : FldTy Tryz.prog 50 0 0 := ⟨fun b o w => by kernel_rfl⟩
instance tf50_1 : FldTy Tryz.prog 50 1 3 := ⟨fun b o w => by kernel_rfl⟩
instance tf50_2 : FldTy Tryz.prog 50 2 6 := ⟨fun b o w => by kernel_rfl⟩
instance tz50 : ZeroTy Tryz.prog 50 [.int .i64 0, .int .i64 0, .int .i64 0, .int .i64 0, .int .i64 0, .int .i64 0, .slice none 0 0, .slice none 0 0, .slice none 0 0] := ⟨.agg #[.int .i64 0, .int .i64 0, .int .i64 0, .int .i64 0, .int .i64 0, .int .i64 0, .slice none 0 0, .slice none 0 0, .slice none 0 0], fun w => by kernel_rfl, rfl⟩
instance tc62 : CellTy Tryz.prog 62 := ⟨fun w => by kernel_rfl⟩
instance ts62 : SlTy Tryz.prog 62 33 1 := ⟨by kernel_rfl, fun w => by kernel_rfl⟩
instance tc64 : CellTy Tryz.prog 64 := ⟨fun w => by kernel_rfl⟩
instance tn64 : SizeTy Tryz.prog 64 1 := ⟨fun w => by kernel_rfl⟩
instance tz64 : ZeroTy Tryz.prog 64 [.slice none 0 0] := ⟨.slice none 0 0, fun w => by kernel_rfl, rfl⟩
instance ts64 : SlTy Tryz.prog 64 69 5 := ⟨by kernel_rfl, fun w => by kernel_rfl⟩
instance ta69 : AggTy Tryz.prog 69 5 := ⟨fun w => by kernel_rfl, fun w => by kernel_rfl⟩
instance tn69 : SizeTy Tryz.prog 69 5 := ⟨fun w => by kernel_rfl⟩
instance tf69_0 : FldTy Tryz.prog 69 0 0 := ⟨fun b o w => by kernel_rfl⟩
instance tf69_1 : FldTy Tryz.prog 69 1 1 := ⟨fun b o w => by kernel_rfl⟩
instance tf69_2 : FldTy Tryz.prog 69 2 2 := ⟨fun b o w => by kernel_rfl⟩
instance tf69_3 : FldTy Tryz.prog 69 3 3 := ⟨fun b o w => by kernel_rfl⟩
instance tf69_4 : FldTy Tryz.prog 69 4 4 := ⟨fun b o w => by kernel_rfl⟩
instance tz69 : ZeroTy Tryz.prog 69 [.int .i64 0, .string ⟨#[]⟩, .string ⟨#[]⟩, .string ⟨#[]⟩, .slice none 0 0] := ⟨.agg #[.int .i64 0, .string ⟨#[]⟩, .string ⟨#[]⟩, .string ⟨#[]⟩, .slice none 0 0], fun w => by kernel_rfl, rfl⟩
instance tc98 : CellTy Tryz.prog 98 := ⟨fun w => by kernel_rfl⟩
instance tx98 : StrTy Tryz.prog 98 := ⟨by kernel_rfl⟩
instance ta101 : AggTy Tryz.prog 101 6 := ⟨fun w => by kernel_rfl, fun w => by kernel_rfl⟩
instance tn101 : SizeTy Tryz.prog 101 6 := ⟨fun w => by kernel_rfl⟩
instance tr101 : ArrTy Tryz.prog 101 6 3 1 := ⟨by kernel_rfl, fun w => by kernel_rfl⟩
instance tz101 : ZeroTy Tryz.prog 101 [.int .i64 0, .int .i64 0, .int .i64 0, .int .i64 0, .int .i64 0, .int .i64 0] := ⟨.agg #[.int .i64 0, .int .i64 0, .int .i64 0, .int .i64 0, .int .i64 0, .int .i64 0], fun w => by kernel_rfl, rfl⟩
instance ta113 : AggTy Tryz.prog 113 6 := ⟨fun w => by kernel_rfl, fun w => by kernel_rfl⟩
instance tn113 : SizeTy Tryz.prog 113 6 := ⟨fun w => by kernel_rfl⟩
instance tr113 : ArrTy Tryz.prog 113 6 33 1 := ⟨by kernel_rfl, fun w => by kernel_rfl⟩
instance tz113 : ZeroTy Tryz.prog 113 [.string ⟨#[]⟩, .string ⟨#[]⟩, .string ⟨#[]⟩, .string ⟨#[]⟩, .string ⟨#[]⟩, .string ⟨#[]⟩] := ⟨.agg #[.string ⟨#[]⟩, .string ⟨#[]⟩, .string ⟨#[]⟩, .string ⟨#[]⟩, .string ⟨#[]⟩, .string ⟨#[]⟩], fun w => by kernel_rfl, rfl⟩
instance ts128 : SlTy Tryz.prog 128 98 1 := ⟨by kernel_rfl, fun w => by kernel_rfl⟩
instance tc136 : CellTy Tryz.prog 136 := ⟨fun w => by kernel_rfl⟩
theorem X1B (x0 x1 : Int) (w : World) : (Instr.buildSlice 136 1 #[(0, .agg #[.int .i64 x0, .int .i64 x1])]).run Tryz.prog w = .ok (.slice (some ⟨w.heap.size, 0, none⟩) 1 1) (w.alloc (.cells #[.int .i64 x0, .int .i64 x1] 209)) := by kernel_rfl
instance ts136 : SlTy Tryz.prog 136 209 2 := ⟨by kernel_rfl, fun w => by kernel_rfl⟩
instance tr142 : ArrTy Tryz.prog 142 3 4 1 := ⟨by kernel_rfl, fun w => by kernel_rfl⟩
instance tz142 : ZeroTy Tryz.prog 142 [.bool false, .bool false, .bool false] := ⟨.agg #[.bool false, .bool false, .bool false], fun w => by kernel_rfl, rfl⟩
instance tc144 : CellTy Tryz.prog 144 := ⟨fun w => by kernel_rfl⟩
instance ts145 : SlTy Tryz.prog 145 144 1 := ⟨by kernel_rfl, fun w => by kernel_rfl⟩
instance ty154 : BytesTy Tryz.prog 154 := ⟨5, by kernel_rfl, by kernel_rfl⟩
instance ts154 : SlTy Tryz.prog 154 5 1 := ⟨by kernel_rfl, fun w => by kernel_rfl⟩
instance ts170 : SlTy Tryz.prog 170 62 1 := ⟨by kernel_rfl, fun w => by kernel_rfl⟩
instance ta209 : AggTy Tryz.prog 209 2 := ⟨fun w => by kernel_rfl, fun w => by kernel_rfl⟩
instance tn209 : SizeTy Tryz.prog 209 2 := ⟨fun w => by kernel_rfl⟩
instance tf209_0 : FldTy Tryz.prog 209 0 0 := ⟨fun b o w => by kernel_rfl⟩
instance tf209_1 : FldTy Tryz.prog 209 1 1 := ⟨fun b o w => by kernel_rfl⟩
instance te209 : EqTy Tryz.prog 209 2 := X0X (by kernel_rfl) (by kernel_rfl) (by kernel_rfl) (by kernel_rfl) (by kernel_rfl)
theorem X1o (x0 x1 : Int) : Tryz.prog.built 209 [(0, .int .i64 x0), (1, .int .i64 x1)] = some #[.int .i64 x0, .int .i64 x1] := by kernel_rfl
instance tz209 : ZeroTy Tryz.prog 209 [.int .i64 0, .int .i64 0] := ⟨.agg #[.int .i64 0, .int .i64 0], fun w => by kernel_rfl, rfl⟩
instance tc211 : CellTy Tryz.prog 211 := ⟨fun w => by kernel_rfl⟩
instance ti218 : IntTy Tryz.prog 218 .u64 := ⟨by kernel_rfl⟩
instance tf231_0 : FldTy Tryz.prog 231 0 0 := ⟨fun b o w => by kernel_rfl⟩
instance ta249 : AggTy Tryz.prog 249 2 := ⟨fun w => by kernel_rfl, fun w => by kernel_rfl⟩
instance tn249 : SizeTy Tryz.prog 249 2 := ⟨fun w => by kernel_rfl⟩
instance tr249 : ArrTy Tryz.prog 249 2 3 1 := ⟨by kernel_rfl, fun w => by kernel_rfl⟩
instance tz249 : ZeroTy Tryz.prog 249 [.int .i64 0, .int .i64 0] := ⟨.agg #[.int .i64 0, .int .i64 0], fun w => by kernel_rfl, rfl⟩
instance ta257 : AggTy Tryz.prog 257 2 := ⟨fun w => by kernel_rfl, fun w => by kernel_rfl⟩
instance tn257 : SizeTy Tryz.prog 257 2 := ⟨fun w => by kernel_rfl⟩
instance tf257_0 : FldTy Tryz.prog 257 0 0 := ⟨fun b o w => by kernel_rfl⟩
instance tf257_1 : FldTy Tryz.prog 257 1 1 := ⟨fun b o w => by kernel_rfl⟩
theorem X1q (x0 x1 : Int) : Tryz.prog.built 257 [(0, .int .i64 x0), (1, .int .i64 x1)] = some #[.int .i64 x0, .int .i64 x1] := by kernel_rfl
instance tz257 : ZeroTy Tryz.prog 257 [.int .i64 0, .int .i64 0] := ⟨.agg #[.int .i64 0, .int .i64 0], fun w => by kernel_rfl, rfl⟩
instance tr264 : ArrTy Tryz.prog 264 3 249 2 := ⟨by kernel_rfl, fun w => by kernel_rfl⟩
instance tc265 : CellTy Tryz.prog 265 := ⟨fun w => by kernel_rfl⟩
instance ta266 : AggTy Tryz.prog 266 2 := ⟨fun w => by kernel_rfl, fun w => by kernel_rfl⟩
instance tn266 : SizeTy Tryz.prog 266 2 := ⟨fun w => by kernel_rfl⟩
instance tf266_0 : FldTy Tryz.prog 266 0 0 := ⟨fun b o w => by kernel_rfl⟩
instance tf266_1 : FldTy Tryz.prog 266 1 1 := ⟨fun b o w => by kernel_rfl⟩
instance tz266 : ZeroTy Tryz.prog 266 [.pointer none, .int .i64 0] := ⟨.agg #[.pointer none, .int .i64 0], fun w => by kernel_rfl, rfl⟩
instance ts267 : SlTy Tryz.prog 267 266 2 := ⟨by kernel_rfl, fun w => by kernel_rfl⟩
instance tn271 : SizeTy Tryz.prog 271 2 := ⟨fun w => by kernel_rfl⟩
instance tr271 : ArrTy Tryz.prog 271 2 33 1 := ⟨by kernel_rfl, fun w => by kernel_rfl⟩
instance tz271 : ZeroTy Tryz.prog 271 [.string ⟨#[]⟩, .string ⟨#[]⟩] := ⟨.agg #[.string ⟨#[]⟩, .string ⟨#[]⟩], fun w => by kernel_rfl, rfl⟩
instance tr295 : ArrTy Tryz.prog 295 232 3 1 := ⟨by kernel_rfl, fun w => by kernel_rfl⟩
instance ta297 : AggTy Tryz.prog 297 234 := ⟨fun w => by kernel_rfl, fun w => by kernel_rfl⟩
instance tn297 : SizeTy Tryz.prog 297 234 := ⟨fun w => by kernel_rfl⟩
instance tf297_0 : FldTy Tryz.prog 297 0 0 := ⟨fun b o w => by kernel_rfl⟩
instance tf297_1 : FldTy Tryz.prog 297 1 1 := ⟨fun b o w => by kernel_rfl⟩
instance tf297_2 : FldTy Tryz.prog 297 2 2 := ⟨fun b o w => by kernel_rfl⟩
instance tw297 : WideTy Tryz.prog 297 := ⟨.agg (wvs 232 false 0 (fun _ => 0)).toArray, fun w => by kernel_rfl, rfl⟩
instance ta318 : AggTy Tryz.prog 318 3 := ⟨fun w => by kernel_rfl, fun w => by kernel_rfl⟩
instance tn318 : SizeTy Tryz.prog 318 3 := ⟨fun w => by kernel_rfl⟩
instance tf318_0 : FldTy Tryz.prog 318 0 0 := ⟨fun b o w => by kernel_rfl⟩
instance tf318_1 : FldTy Tryz.prog 318 1 1 := ⟨fun b o w => by kernel_rfl⟩
instance tf318_2 : FldTy Tryz.prog 318 2 2 := ⟨fun b o w => by kernel_rfl⟩
theorem X1t (x0 x1 x2 : Int) : Tryz.prog.built 318 [(0, .int .i64 x0), (1, .int .i64 x1), (2, .int .i64 x2)] = some #[.int .i64 x0, .int .i64 x1, .int .i64 x2] := by kernel_rfl
instance tz318 : ZeroTy Tryz.prog 318 [.int .i64 0, .int .i64 0, .int .i64 0] := ⟨.agg #[.int .i64 0, .int .i64 0, .int .i64 0], fun w => by kernel_rfl, rfl⟩
instance tz355 : ZeroTy Tryz.prog 355 [.pointer none, .slice none 0 0] := ⟨.agg #[.pointer none, .slice none 0 0], fun w => by kernel_rfl, rfl⟩
instance tl3 : EltTy Tryz.prog 3 1 8 := x0u (by kernel_rfl)
instance tl33 : EltTy Tryz.prog 33 1 16 := x0u (by kernel_rfl)
instance tl40 : EltTy Tryz.prog 40 9 168 := x0u (by kernel_rfl)
instance tl43 : EltTy Tryz.prog 43 3 24 := x0u (by kernel_rfl)
instance tl69 : EltTy Tryz.prog 69 5 80 := x0u (by kernel_rfl)
instance tl209 : EltTy Tryz.prog 209 2 16 := x0u (by kernel_rfl)
theorem tm : Tryz.prog.follows .mixedOrders = true := by kernel_rfl
end Go.Proofs.YtfggdokihnopeaaGreatDoor
