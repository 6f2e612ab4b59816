/- A part of the proof. -/
import Derived.Test.YtgblokifbgeegaaGreatDoorProg
import Derived.KernelRfl
import Derived.Test.YtgblokifbgeegaaGreatDoorEad
set_option linter.unusedVariables false
set_option linter.unusedSimpArgs false
namespace Go.Proofs.YtgblokifbgeegaaGreatDoor
open Go Go.Vc Go.RowKit
instance tc3 : CellTy Tryz.prog 3 := ⟨fun w => by kernel_rfl⟩
instance tn3 : SizeTy Tryz.prog 3 1 := ⟨fun w => by kernel_rfl⟩
instance ti3 : IntTy Tryz.prog 3 .i64 := ⟨by kernel_rfl⟩
instance tc4 : CellTy Tryz.prog 4 := ⟨fun w => by kernel_rfl⟩
instance tn4 : SizeTy Tryz.prog 4 1 := ⟨fun w => by kernel_rfl⟩
instance tb4 : BoolTy Tryz.prog 4 := ⟨by kernel_rfl⟩
instance tn5 : SizeTy Tryz.prog 5 1 := ⟨fun w => by kernel_rfl⟩
instance ti5 : IntTy Tryz.prog 5 .u8 := ⟨by kernel_rfl⟩
instance tx9 : StrTy Tryz.prog 9 := ⟨by kernel_rfl⟩
instance ta22 : AggTy Tryz.prog 22 3 := ⟨fun w => by kernel_rfl, fun w => by kernel_rfl⟩
instance tn22 : SizeTy Tryz.prog 22 3 := ⟨fun w => by kernel_rfl⟩
instance tr22 : ArrTy Tryz.prog 22 3 3 1 := ⟨by kernel_rfl, fun w => by kernel_rfl⟩
instance te22 : EqTy Tryz.prog 22 3 := V0d (e := 3) (by kernel_rfl) (i := (Tryz.prog.info? 3).getD default) (by kernel_rfl) (by kernel_rfl) (by kernel_rfl) (by kernel_rfl)
theorem j2Q (x0 x1 x2 : Int) : Tryz.prog.built 22 [(0, .int .i64 x0), (1, .int .i64 x1), (2, .int .i64 x2)] = some #[.int .i64 x0, .int .i64 x1, .int .i64 x2] := by kernel_rfl
instance tz22 : ZeroTy Tryz.prog 22 [.int .i64 0, .int .i64 0, .int .i64 0] := ⟨.agg #[.int .i64 0, .int .i64 0, .int .i64 0], fun w => by kernel_rfl, rfl⟩
instance ta24 : AggTy Tryz.prog 24 5 := ⟨fun w => by kernel_rfl, fun w => by kernel_rfl⟩
instance tn24 : SizeTy Tryz.prog 24 5 := ⟨fun w => by kernel_rfl⟩
instance tf24_0 : FldTy Tryz.prog 24 0 0 := ⟨fun b o w => by kernel_rfl⟩
instance tf24_1 : FldTy Tryz.prog 24 1 3 := ⟨fun b o w => by kernel_rfl⟩
instance tf24_2 : FldTy Tryz.prog 24 2 4 := ⟨fun b o w => by kernel_rfl⟩
instance tz24 : ZeroTy Tryz.prog 24 [.int .i64 0, .int .i64 0, .int .i64 0, .int .i64 0, .int .i64 0] := ⟨.agg #[.int .i64 0, .int .i64 0, .int .i64 0, .int .i64 0, .int .i64 0], fun w => by kernel_rfl, rfl⟩
instance tc25 : CellTy Tryz.prog 25 := ⟨fun w => by kernel_rfl⟩
instance tn25 : SizeTy Tryz.prog 25 1 := ⟨fun w => by kernel_rfl⟩
instance tz25 : ZeroTy Tryz.prog 25 [.string ⟨#[]⟩] := ⟨.string ⟨#[]⟩, fun w => by kernel_rfl, rfl⟩
instance tx25 : StrTy Tryz.prog 25 := ⟨by kernel_rfl⟩
instance tc26 : CellTy Tryz.prog 26 := ⟨fun w => by kernel_rfl⟩
instance tn26 : SizeTy Tryz.prog 26 1 := ⟨fun w => by kernel_rfl⟩
instance tz26 : ZeroTy Tryz.prog 26 [.int .i64 0] := ⟨.int .i64 0, fun w => by kernel_rfl, rfl⟩
instance tc34 : CellTy Tryz.prog 34 := ⟨fun w => by kernel_rfl⟩
theorem q2A (x0 x1 x2 : Int) (w : World) : (Instr.buildSlice 34 1 #[(0, .agg #[.int .i64 x0, .int .i64 x1, .int .i64 x2])]).run Tryz.prog w = .ok (.slice (some ⟨w.heap.size, 0, none⟩) 1 1) (w.alloc (.cells #[.int .i64 x0, .int .i64 x1, .int .i64 x2] 53)) := by kernel_rfl
instance ts34 : SlTy Tryz.prog 34 53 3 := ⟨by kernel_rfl, fun w => by kernel_rfl⟩
instance tc40 : CellTy Tryz.prog 40 := ⟨fun w => by kernel_rfl⟩
instance tn40 : SizeTy Tryz.prog 40 1 := ⟨fun w => by kernel_rfl⟩
theorem K1u (x0 : Int) (w : World) : (Instr.buildSlice 40 1 #[(0, .int .i64 x0)]).run Tryz.prog w = .ok (.slice (some ⟨w.heap.size, 0, none⟩) 1 1) (w.alloc (.cells #[.int .i64 x0] 3)) := by kernel_rfl
instance ts40 : SlTy Tryz.prog 40 3 1 := ⟨by kernel_rfl, fun w => by kernel_rfl⟩
instance ta53 : AggTy Tryz.prog 53 3 := ⟨fun w => by kernel_rfl, fun w => by kernel_rfl⟩
instance tn53 : SizeTy Tryz.prog 53 3 := ⟨fun w => by kernel_rfl⟩
instance tf53_0 : FldTy Tryz.prog 53 0 0 := ⟨fun b o w => by kernel_rfl⟩
instance tf53_1 : FldTy Tryz.prog 53 1 1 := ⟨fun b o w => by kernel_rfl⟩
instance tf53_2 : FldTy Tryz.prog 53 2 2 := ⟨fun b o w => by kernel_rfl⟩
instance te53 : EqTy Tryz.prog 53 3 := J0V (by kernel_rfl) (by kernel_rfl) (by kernel_rfl) (by kernel_rfl) (by kernel_rfl)
theorem j2R (x0 x1 x2 : Int) : Tryz.prog.built 53 [(0, .int .i64 x0), (1, .int .i64 x1), (2, .int .i64 x2)] = some #[.int .i64 x0, .int .i64 x1, .int .i64 x2] := by kernel_rfl
instance tz53 : ZeroTy Tryz.prog 53 [.int .i64 0, .int .i64 0, .int .i64 0] := ⟨.agg #[.int .i64 0, .int .i64 0, .int .i64 0], fun w => by kernel_rfl, rfl⟩
instance ta73 : AggTy Tryz.prog 73 2 := ⟨fun w => by kernel_rfl, fun w => by kernel_rfl⟩
instance tn73 : SizeTy Tryz.prog 73 2 := ⟨fun w => by kernel_rfl⟩
instance tr73 : ArrTy Tryz.prog 73 2 3 1 := ⟨by kernel_rfl, fun w => by kernel_rfl⟩
theorem j2k (x0 x1 : Int) : Tryz.prog.built 73 [(0, .int .i64 x0), (1, .int .i64 x1)] = some #[.int .i64 x0, .int .i64 x1] := by kernel_rfl
instance tz73 : ZeroTy Tryz.prog 73 [.int .i64 0, .int .i64 0] := ⟨.agg #[.int .i64 0, .int .i64 0], fun w => by kernel_rfl, rfl⟩
instance tc76 : CellTy Tryz.prog 76 := ⟨fun w => by kernel_rfl⟩
theorem X1X (x0 x1 : Int) (w : World) : (Instr.buildSlice 76 1 #[(0, .agg #[.int .i64 x0, .int .i64 x1])]).run Tryz.prog w = .ok (.slice (some ⟨w.heap.size, 0, none⟩) 1 1) (w.alloc (.cells #[.int .i64 x0, .int .i64 x1] 82)) := by kernel_rfl
instance ts76 : SlTy Tryz.prog 76 82 2 := ⟨by kernel_rfl, fun w => by kernel_rfl⟩
instance ta82 : AggTy Tryz.prog 82 2 := ⟨fun w => by kernel_rfl, fun w => by kernel_rfl⟩
instance tn82 : SizeTy Tryz.prog 82 2 := ⟨fun w => by kernel_rfl⟩
instance tf82_0 : FldTy Tryz.prog 82 0 0 := ⟨fun b o w => by kernel_rfl⟩
instance tf82_1 : FldTy Tryz.prog 82 1 1 := ⟨fun b o w => by kernel_rfl⟩
instance te82 : EqTy Tryz.prog 82 2 := J0V (by kernel_rfl) (by kernel_rfl) (by kernel_rfl) (by kernel_rfl) (by kernel_rfl)
theorem j2S (x0 x1 : Int) : Tryz.prog.built 82 [(0, .int .i64 x0), (1, .int .i64 x1)] = some #[.int .i64 x0, .int .i64 x1] := by kernel_rfl
instance tz82 : ZeroTy Tryz.prog 82 [.int .i64 0, .int .i64 0] := ⟨.agg #[.int .i64 0, .int .i64 0], fun w => by kernel_rfl, rfl⟩
instance ts101 : SlTy Tryz.prog 101 104 1 := ⟨by kernel_rfl, fun w => by kernel_rfl⟩
instance tc104 : CellTy Tryz.prog 104 := ⟨fun w => by kernel_rfl⟩
instance tx104 : StrTy Tryz.prog 104 := ⟨by kernel_rfl⟩
instance ta116 : AggTy Tryz.prog 116 4 := ⟨fun w => by kernel_rfl, fun w => by kernel_rfl⟩
instance tn116 : SizeTy Tryz.prog 116 4 := ⟨fun w => by kernel_rfl⟩
instance tf116_0 : FldTy Tryz.prog 116 0 0 := ⟨fun b o w => by kernel_rfl⟩
instance tf116_1 : FldTy Tryz.prog 116 1 2 := ⟨fun b o w => by kernel_rfl⟩
instance tf116_2 : FldTy Tryz.prog 116 2 3 := ⟨fun b o w => by kernel_rfl⟩
instance tz116 : ZeroTy Tryz.prog 116 [.int .i64 0, .int .i64 0, .int .i64 0, .int .i64 0] := ⟨.agg #[.int .i64 0, .int .i64 0, .int .i64 0, .int .i64 0], fun w => by kernel_rfl, rfl⟩
instance tc128 : CellTy Tryz.prog 128 := ⟨fun w => by kernel_rfl⟩
instance tn128 : SizeTy Tryz.prog 128 1 := ⟨fun w => by kernel_rfl⟩
instance tz128 : ZeroTy Tryz.prog 128 [.nilFunc] := ⟨.nilFunc, fun w => by kernel_rfl, rfl⟩
instance tf139_0 : FldTy Tryz.prog 139 0 0 := ⟨fun b o w => by kernel_rfl⟩
instance ty145 : BytesTy Tryz.prog 145 := ⟨5, by kernel_rfl, by kernel_rfl⟩
instance ts145 : SlTy Tryz.prog 145 5 1 := ⟨by kernel_rfl, fun w => by kernel_rfl⟩
instance tc152 : CellTy Tryz.prog 152 := ⟨fun w => by kernel_rfl⟩
instance tn152 : SizeTy Tryz.prog 152 1 := ⟨fun w => by kernel_rfl⟩
instance tz152 : ZeroTy Tryz.prog 152 [.nilFunc] := ⟨.nilFunc, fun w => by kernel_rfl, rfl⟩
instance ts160 : SlTy Tryz.prog 160 25 1 := ⟨by kernel_rfl, fun w => by kernel_rfl⟩
instance ta165 : AggTy Tryz.prog 165 3 := ⟨fun w => by kernel_rfl, fun w => by kernel_rfl⟩
instance tn165 : SizeTy Tryz.prog 165 3 := ⟨fun w => by kernel_rfl⟩
instance tr165 : ArrTy Tryz.prog 165 3 3 1 := ⟨by kernel_rfl, fun w => by kernel_rfl⟩
instance te165 : EqTy Tryz.prog 165 3 := V0d (e := 3) (by kernel_rfl) (i := (Tryz.prog.info? 3).getD default) (by kernel_rfl) (by kernel_rfl) (by kernel_rfl) (by kernel_rfl)
theorem x1z (x0 x1 x2 : Int) : Tryz.prog.built 165 [(0, .int .i64 x0), (1, .int .i64 x1), (2, .int .i64 x2)] = some #[.int .i64 x0, .int .i64 x1, .int .i64 x2] := by kernel_rfl
instance tz165 : ZeroTy Tryz.prog 165 [.int .i64 0, .int .i64 0, .int .i64 0] := ⟨.agg #[.int .i64 0, .int .i64 0, .int .i64 0], fun w => by kernel_rfl, rfl⟩
instance ta167 : AggTy Tryz.prog 167 7 := ⟨fun w => by kernel_rfl, fun w => by kernel_rfl⟩
instance tn167 : SizeTy Tryz.prog 167 7 := ⟨fun w => by kernel_rfl⟩
instance tf167_0 : FldTy Tryz.prog 167 0 0 := ⟨fun b o w => by kernel_rfl⟩
instance tf167_1 : FldTy Tryz.prog 167 1 1 := ⟨fun b o w => by kernel_rfl⟩
instance tf167_2 : FldTy Tryz.prog 167 2 4 := ⟨fun b o w => by kernel_rfl⟩
instance tz167 : ZeroTy Tryz.prog 167 [.int .i64 0, .int .i64 0, .int .i64 0, .int .i64 0, .int .i64 0, .int .i64 0, .int .i64 0] := ⟨.agg #[.int .i64 0, .int .i64 0, .int .i64 0, .int .i64 0, .int .i64 0, .int .i64 0, .int .i64 0], fun w => by kernel_rfl, rfl⟩
instance tc169 : CellTy Tryz.prog 169 := ⟨fun w => by kernel_rfl⟩
theorem k1Q (x0 x1 x2 : Int) (w : World) : (Instr.buildSlice 169 1 #[(0, .agg #[.int .i64 x0, .int .i64 x1, .int .i64 x2])]).run Tryz.prog w = .ok (.slice (some ⟨w.heap.size, 0, none⟩) 1 1) (w.alloc (.cells #[.int .i64 x0, .int .i64 x1, .int .i64 x2] 165)) := by kernel_rfl
instance ts169 : SlTy Tryz.prog 169 165 3 := ⟨by kernel_rfl, fun w => by kernel_rfl⟩
instance tc173 : CellTy Tryz.prog 173 := ⟨fun w => by kernel_rfl⟩
instance tn173 : SizeTy Tryz.prog 173 1 := ⟨fun w => by kernel_rfl⟩
instance ts173 : SlTy Tryz.prog 173 179 5 := ⟨by kernel_rfl, fun w => by kernel_rfl⟩
instance ta179 : AggTy Tryz.prog 179 5 := ⟨fun w => by kernel_rfl, fun w => by kernel_rfl⟩
instance tn179 : SizeTy Tryz.prog 179 5 := ⟨fun w => by kernel_rfl⟩
instance tf179_0 : FldTy Tryz.prog 179 0 0 := ⟨fun b o w => by kernel_rfl⟩
instance tf179_1 : FldTy Tryz.prog 179 1 3 := ⟨fun b o w => by kernel_rfl⟩
instance tf179_2 : FldTy Tryz.prog 179 2 4 := ⟨fun b o w => by kernel_rfl⟩
instance tz179 : ZeroTy Tryz.prog 179 [.int .i64 0, .int .i64 0, .int .i64 0, .int .i64 0, .slice none 0 0] := ⟨.agg #[.int .i64 0, .int .i64 0, .int .i64 0, .int .i64 0, .slice none 0 0], fun w => by kernel_rfl, rfl⟩
theorem j2p (x0 x1 : Int) (w : World) : (Instr.buildSlice 181 1 #[(0, .agg #[.int .i64 x0, .int .i64 x1])]).run Tryz.prog w = .ok (.slice (some ⟨w.heap.size, 0, none⟩) 1 1) (w.alloc (.cells #[.int .i64 x0, .int .i64 x1] 73)) := by kernel_rfl
instance ts181 : SlTy Tryz.prog 181 73 2 := ⟨by kernel_rfl, fun w => by kernel_rfl⟩
instance tr222 : ArrTy Tryz.prog 222 232 3 1 := ⟨by kernel_rfl, fun w => by kernel_rfl⟩
instance ta224 : AggTy Tryz.prog 224 234 := ⟨fun w => by kernel_rfl, fun w => by kernel_rfl⟩
instance tn224 : SizeTy Tryz.prog 224 234 := ⟨fun w => by kernel_rfl⟩
instance tf224_0 : FldTy Tryz.prog 224 0 0 := ⟨fun b o w => by kernel_rfl⟩
instance tf224_1 : FldTy Tryz.prog 224 1 1 := ⟨fun b o w => by kernel_rfl⟩
instance tf224_2 : FldTy Tryz.prog 224 2 2 := ⟨fun b o w => by kernel_rfl⟩
instance tw224 : WideTy Tryz.prog 224 := ⟨.agg (wvs 232 false 0 (fun _ => 0)).toArray, fun w => by kernel_rfl, rfl⟩
instance tz249 : ZeroTy Tryz.prog 249 [.pointer none, .slice none 0 0] := ⟨.agg #[.pointer none, .slice none 0 0], fun w => by kernel_rfl, rfl⟩
instance tl3 : EltTy Tryz.prog 3 1 8 := x0H (by kernel_rfl)
instance tl53 : EltTy Tryz.prog 53 3 24 := x0H (by kernel_rfl)
instance tl73 : EltTy Tryz.prog 73 2 16 := x0H (by kernel_rfl)
instance tl82 : EltTy Tryz.prog 82 2 16 := x0H (by kernel_rfl)
instance tl165 : EltTy Tryz.prog 165 3 24 := x0H (by kernel_rfl)
instance tl179 : EltTy Tryz.prog 179 5 56 := x0H (by kernel_rfl)
theorem tm : Tryz.prog.follows .mixedOrders = true := by kernel_rfl
end Go.Proofs.YtgblokifbgeegaaGreatDoor
