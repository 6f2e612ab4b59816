/- A part of the proof. -/
import Derived.Test.YtgepmbjmaljgoaaGreatDoorProg
import Derived.KernelRfl
import Derived.Test.YtgepmbjmaljgoaaGreatDoorBad
set_option linter.unusedVariables false
set_option linter.unusedSimpArgs false
namespace Go.Proofs.YtgepmbjmaljgoaaGreatDoor
open Go Go.Vc Go.RowKit
instance tc3 : CellTy Tryz.prog 3 := ⟨fun w => by kernel_rfl⟩
instance tn3 : SizeTy Tryz.prog 3 1 := ⟨fun w => by kernel_rfl⟩
instance ti3 : IntTy Tryz.prog 3 .i64 := ⟨by kernel_rfl⟩
instance tc4 : CellTy Tryz.prog 4 := ⟨fun w => by kernel_rfl⟩
instance tn4 : SizeTy Tryz.prog 4 1 := ⟨fun w => by kernel_rfl⟩
instance tb4 : BoolTy Tryz.prog 4 := ⟨by kernel_rfl⟩
instance tn5 : SizeTy Tryz.prog 5 1 := ⟨fun w => by kernel_rfl⟩
instance ti5 : IntTy Tryz.prog 5 .u8 := ⟨by kernel_rfl⟩
instance tx9 : StrTy Tryz.prog 9 := ⟨by kernel_rfl⟩
instance tc22 : CellTy Tryz.prog 22 := ⟨fun w => by kernel_rfl⟩
instance ts22 : SlTy Tryz.prog 22 51 3 := ⟨by kernel_rfl, fun w => by kernel_rfl⟩
instance tc25 : CellTy Tryz.prog 25 := ⟨fun w => by kernel_rfl⟩
instance tn25 : SizeTy Tryz.prog 25 1 := ⟨fun w => by kernel_rfl⟩
instance tz25 : ZeroTy Tryz.prog 25 [.slice none 0 0] := ⟨.slice none 0 0, fun w => by kernel_rfl, rfl⟩
instance ts25 : SlTy Tryz.prog 25 42 5 := ⟨by kernel_rfl, fun w => by kernel_rfl⟩
instance tc26 : CellTy Tryz.prog 26 := ⟨fun w => by kernel_rfl⟩
instance tn26 : SizeTy Tryz.prog 26 1 := ⟨fun w => by kernel_rfl⟩
instance tz26 : ZeroTy Tryz.prog 26 [.int .i64 0] := ⟨.int .i64 0, fun w => by kernel_rfl, rfl⟩
instance ts29 : SlTy Tryz.prog 29 45 5 := ⟨by kernel_rfl, fun w => by kernel_rfl⟩
instance ta38 : AggTy Tryz.prog 38 2 := ⟨fun w => by kernel_rfl, fun w => by kernel_rfl⟩
instance tn38 : SizeTy Tryz.prog 38 2 := ⟨fun w => by kernel_rfl⟩
instance tf38_0 : FldTy Tryz.prog 38 0 0 := ⟨fun b o w => by kernel_rfl⟩
instance tf38_1 : FldTy Tryz.prog 38 1 1 := ⟨fun b o w => by kernel_rfl⟩
instance te38 : EqTy Tryz.prog 38 2 := eqTy_struct (by kernel_rfl) (by kernel_rfl) (by kernel_rfl) (by kernel_rfl) (by kernel_rfl)
theorem tb38 (x0 x1 : Int) : Tryz.prog.built 38 [(0, .int .i64 x0), (1, .int .i64 x1)] = some #[.int .i64 x0, .int .i64 x1] := by kernel_rfl
instance tz38 : ZeroTy Tryz.prog 38 [.int .i64 0, .int .i64 0] := ⟨.agg #[.int .i64 0, .int .i64 0], fun w => by kernel_rfl, rfl⟩
instance tc39 : CellTy Tryz.prog 39 := ⟨fun w => by kernel_rfl⟩
instance tn39 : SizeTy Tryz.prog 39 1 := ⟨fun w => by kernel_rfl⟩
instance tx39 : StrTy Tryz.prog 39 := ⟨by kernel_rfl⟩
instance tc40 : CellTy Tryz.prog 40 := ⟨fun w => by kernel_rfl⟩
instance tn40 : SizeTy Tryz.prog 40 1 := ⟨fun w => by kernel_rfl⟩
theorem tq40 (x0 : Int) (w : World) : (Instr.buildSlice 40 1 #[(0, .int .i64 x0)]).run Tryz.prog w = .ok (.slice (some ⟨w.heap.size, 0, none⟩) 1 1) (w.alloc (.cells #[.int .i64 x0] 3)) := by kernel_rfl
instance ts40 : SlTy Tryz.prog 40 3 1 := ⟨by kernel_rfl, fun w => by kernel_rfl⟩
instance ta42 : AggTy Tryz.prog 42 5 := ⟨fun w => by kernel_rfl, fun w => by kernel_rfl⟩
instance tn42 : SizeTy Tryz.prog 42 5 := ⟨fun w => by kernel_rfl⟩
instance tf42_0 : FldTy Tryz.prog 42 0 0 := ⟨fun b o w => by kernel_rfl⟩
instance tf42_1 : FldTy Tryz.prog 42 1 1 := ⟨fun b o w => by kernel_rfl⟩
instance tf42_2 : FldTy Tryz.prog 42 2 2 := ⟨fun b o w => by kernel_rfl⟩
instance tf42_3 : FldTy Tryz.prog 42 3 3 := ⟨fun b o w => by kernel_rfl⟩
instance tf42_4 : FldTy Tryz.prog 42 4 4 := ⟨fun b o w => by kernel_rfl⟩
instance tz42 : ZeroTy Tryz.prog 42 [.int .i64 0, .string ⟨#[]⟩, .string ⟨#[]⟩, .string ⟨#[]⟩, .slice none 0 0] := ⟨.agg #[.int .i64 0, .string ⟨#[]⟩, .string ⟨#[]⟩, .string ⟨#[]⟩, .slice none 0 0], fun w => by kernel_rfl, rfl⟩
instance ta45 : AggTy Tryz.prog 45 5 := ⟨fun w => by kernel_rfl, fun w => by kernel_rfl⟩
instance tn45 : SizeTy Tryz.prog 45 5 := ⟨fun w => by kernel_rfl⟩
instance tf45_0 : FldTy Tryz.prog 45 0 0 := ⟨fun b o w => by kernel_rfl⟩
instance tf45_1 : FldTy Tryz.prog 45 1 1 := ⟨fun b o w => by kernel_rfl⟩
instance tf45_2 : FldTy Tryz.prog 45 2 2 := ⟨fun b o w => by kernel_rfl⟩
instance tf45_3 : FldTy Tryz.prog 45 3 3 := ⟨fun b o w => by kernel_rfl⟩
instance tf45_4 : FldTy Tryz.prog 45 4 4 := ⟨fun b o w => by kernel_rfl⟩
instance tz45 : ZeroTy Tryz.prog 45 [.int .i64 0, .string ⟨#[]⟩, .string ⟨#[]⟩, .string ⟨#[]⟩, .slice none 0 0] := ⟨.agg #[.int .i64 0, .string ⟨#[]⟩, .string ⟨#[]⟩, .string ⟨#[]⟩, .slice none 0 0], fun w => by kernel_rfl, rfl⟩
instance ta51 : AggTy Tryz.prog 51 3 := ⟨fun w => by kernel_rfl, fun w => by kernel_rfl⟩
instance tn51 : SizeTy Tryz.prog 51 3 := ⟨fun w => by kernel_rfl⟩
instance tf51_0 : FldTy Tryz.prog 51 0 0 := ⟨fun b o w => by kernel_rfl⟩
instance tf51_1 : FldTy Tryz.prog 51 1 1 := ⟨fun b o w => by kernel_rfl⟩
instance tf51_2 : FldTy Tryz.prog 51 2 2 := ⟨fun b o w => by kernel_rfl⟩
theorem tb51 (x0 x1 x2 : Int) : Tryz.prog.built 51 [(0, .int .i64 x0), (1, .int .i64 x1), (2, .int .i64 x2)] = some #[.int .i64 x0, .int .i64 x1, .int .i64 x2] := by kernel_rfl
instance tz51 : ZeroTy Tryz.prog 51 [.int .i64 0, .int .i64 0, .int .i64 0] := ⟨.agg #[.int .i64 0, .int .i64 0, .int .i64 0], fun w => by kernel_rfl, rfl⟩
instance tr57 : ArrTy Tryz.prog 57 3 39 1 := ⟨by kernel_rfl, fun w => by kernel_rfl⟩
instance ta59 : AggTy Tryz.prog 59 6 := ⟨fun w => by kernel_rfl, fun w => by kernel_rfl⟩
instance tn59 : SizeTy Tryz.prog 59 6 := ⟨fun w => by kernel_rfl⟩
instance tf59_0 : FldTy Tryz.prog 59 0 0 := ⟨fun b o w => by kernel_rfl⟩
instance tf59_1 : FldTy Tryz.prog 59 1 3 := ⟨fun b o w => by kernel_rfl⟩
instance tz59 : ZeroTy Tryz.prog 59 [.string ⟨#[]⟩, .string ⟨#[]⟩, .string ⟨#[]⟩, .string ⟨#[]⟩, .string ⟨#[]⟩, .string ⟨#[]⟩] := ⟨.agg #[.string ⟨#[]⟩, .string ⟨#[]⟩, .string ⟨#[]⟩, .string ⟨#[]⟩, .string ⟨#[]⟩, .string ⟨#[]⟩], fun w => by kernel_rfl, rfl⟩
instance tc70 : CellTy Tryz.prog 70 := ⟨fun w => by kernel_rfl⟩
theorem tq70 (x0 x1 : Int) (w : World) : (Instr.buildSlice 70 1 #[(0, .agg #[.int .i64 x0, .int .i64 x1])]).run Tryz.prog w = .ok (.slice (some ⟨w.heap.size, 0, none⟩) 1 1) (w.alloc (.cells #[.int .i64 x0, .int .i64 x1] 38)) := by kernel_rfl
instance ts70 : SlTy Tryz.prog 70 38 2 := ⟨by kernel_rfl, fun w => by kernel_rfl⟩
instance ta87 : AggTy Tryz.prog 87 3 := ⟨fun w => by kernel_rfl, fun w => by kernel_rfl⟩
instance tn87 : SizeTy Tryz.prog 87 3 := ⟨fun w => by kernel_rfl⟩
instance tr87 : ArrTy Tryz.prog 87 3 3 1 := ⟨by kernel_rfl, fun w => by kernel_rfl⟩
theorem tb87 (x0 x1 x2 : Int) : Tryz.prog.built 87 [(0, .int .i64 x0), (1, .int .i64 x1), (2, .int .i64 x2)] = some #[.int .i64 x0, .int .i64 x1, .int .i64 x2] := by kernel_rfl
instance tz87 : ZeroTy Tryz.prog 87 [.int .i64 0, .int .i64 0, .int .i64 0] := ⟨.agg #[.int .i64 0, .int .i64 0, .int .i64 0], fun w => by kernel_rfl, rfl⟩
instance tc102 : CellTy Tryz.prog 102 := ⟨fun w => by kernel_rfl⟩
instance tn102 : SizeTy Tryz.prog 102 1 := ⟨fun w => by kernel_rfl⟩
instance ts102 : SlTy Tryz.prog 102 39 1 := ⟨by kernel_rfl, fun w => by kernel_rfl⟩
instance tc128 : CellTy Tryz.prog 128 := ⟨fun w => by kernel_rfl⟩
instance tx128 : StrTy Tryz.prog 128 := ⟨by kernel_rfl⟩
instance ts130 : SlTy Tryz.prog 130 128 1 := ⟨by kernel_rfl, fun w => by kernel_rfl⟩
instance tr152 : ArrTy Tryz.prog 152 2 3 1 := ⟨by kernel_rfl, fun w => by kernel_rfl⟩
instance tr153 : ArrTy Tryz.prog 153 3 152 2 := ⟨by kernel_rfl, fun w => by kernel_rfl⟩
instance ta178 : AggTy Tryz.prog 178 2 := ⟨fun w => by kernel_rfl, fun w => by kernel_rfl⟩
instance tn178 : SizeTy Tryz.prog 178 2 := ⟨fun w => by kernel_rfl⟩
instance tf178_0 : FldTy Tryz.prog 178 0 0 := ⟨fun b o w => by kernel_rfl⟩
instance tf178_1 : FldTy Tryz.prog 178 1 1 := ⟨fun b o w => by kernel_rfl⟩
theorem tb178 (x0 x1 : Int) : Tryz.prog.built 178 [(0, .int .i64 x0), (1, .int .i64 x1)] = some #[.int .i64 x0, .int .i64 x1] := by kernel_rfl
instance tz178 : ZeroTy Tryz.prog 178 [.int .i64 0, .int .i64 0] := ⟨.agg #[.int .i64 0, .int .i64 0], fun w => by kernel_rfl, rfl⟩
instance ty187 : BytesTy Tryz.prog 187 := ⟨5, by kernel_rfl, by kernel_rfl⟩
instance ts187 : SlTy Tryz.prog 187 5 1 := ⟨by kernel_rfl, fun w => by kernel_rfl⟩
instance tc201 : CellTy Tryz.prog 201 := ⟨fun w => by kernel_rfl⟩
instance ta202 : AggTy Tryz.prog 202 2 := ⟨fun w => by kernel_rfl, fun w => by kernel_rfl⟩
instance tn202 : SizeTy Tryz.prog 202 2 := ⟨fun w => by kernel_rfl⟩
instance tf202_0 : FldTy Tryz.prog 202 0 0 := ⟨fun b o w => by kernel_rfl⟩
instance tf202_1 : FldTy Tryz.prog 202 1 1 := ⟨fun b o w => by kernel_rfl⟩
instance tz202 : ZeroTy Tryz.prog 202 [.pointer none, .int .i64 0] := ⟨.agg #[.pointer none, .int .i64 0], fun w => by kernel_rfl, rfl⟩
instance ts203 : SlTy Tryz.prog 203 202 2 := ⟨by kernel_rfl, fun w => by kernel_rfl⟩
instance tn208 : SizeTy Tryz.prog 208 2 := ⟨fun w => by kernel_rfl⟩
instance tr208 : ArrTy Tryz.prog 208 2 39 1 := ⟨by kernel_rfl, fun w => by kernel_rfl⟩
instance tz208 : ZeroTy Tryz.prog 208 [.string ⟨#[]⟩, .string ⟨#[]⟩] := ⟨.agg #[.string ⟨#[]⟩, .string ⟨#[]⟩], fun w => by kernel_rfl, rfl⟩
instance ta212 : AggTy Tryz.prog 212 3 := ⟨fun w => by kernel_rfl, fun w => by kernel_rfl⟩
instance tn212 : SizeTy Tryz.prog 212 3 := ⟨fun w => by kernel_rfl⟩
instance tf212_0 : FldTy Tryz.prog 212 0 0 := ⟨fun b o w => by kernel_rfl⟩
instance tf212_1 : FldTy Tryz.prog 212 1 1 := ⟨fun b o w => by kernel_rfl⟩
instance tf212_2 : FldTy Tryz.prog 212 2 2 := ⟨fun b o w => by kernel_rfl⟩
instance tz212 : ZeroTy Tryz.prog 212 [.int .i64 0, .int .i64 0, .slice none 0 0] := ⟨.agg #[.int .i64 0, .int .i64 0, .slice none 0 0], fun w => by kernel_rfl, rfl⟩
instance tf231_0 : FldTy Tryz.prog 231 0 0 := ⟨fun b o w => by kernel_rfl⟩
instance ta254 : AggTy Tryz.prog 254 3 := ⟨fun w => by kernel_rfl, fun w => by kernel_rfl⟩
instance tn254 : SizeTy Tryz.prog 254 3 := ⟨fun w => by kernel_rfl⟩
instance tf254_0 : FldTy Tryz.prog 254 0 0 := ⟨fun b o w => by kernel_rfl⟩
instance tf254_1 : FldTy Tryz.prog 254 1 1 := ⟨fun b o w => by kernel_rfl⟩
instance tf254_2 : FldTy Tryz.prog 254 2 2 := ⟨fun b o w => by kernel_rfl⟩
theorem tb254 (x0 x1 x2 : Int) : Tryz.prog.built 254 [(0, .int .i64 x0), (1, .int .i64 x1), (2, .int .i64 x2)] = some #[.int .i64 x0, .int .i64 x1, .int .i64 x2] := by kernel_rfl
instance tz254 : ZeroTy Tryz.prog 254 [.int .i64 0, .int .i64 0, .int .i64 0] := ⟨.agg #[.int .i64 0, .int .i64 0, .int .i64 0], fun w => by kernel_rfl, rfl⟩
instance tr283 : ArrTy Tryz.prog 283 232 3 1 := ⟨by kernel_rfl, fun w => by kernel_rfl⟩
instance ta285 : AggTy Tryz.prog 285 234 := ⟨fun w => by kernel_rfl, fun w => by kernel_rfl⟩
instance tn285 : SizeTy Tryz.prog 285 234 := ⟨fun w => by kernel_rfl⟩
instance tf285_0 : FldTy Tryz.prog 285 0 0 := ⟨fun b o w => by kernel_rfl⟩
instance tf285_1 : FldTy Tryz.prog 285 1 1 := ⟨fun b o w => by kernel_rfl⟩
instance tf285_2 : FldTy Tryz.prog 285 2 2 := ⟨fun b o w => by kernel_rfl⟩
instance tw285 : WideTy Tryz.prog 285 := ⟨.agg (wvs 232 false 0 (fun _ => 0)).toArray, fun w => by kernel_rfl, rfl⟩
instance ts311 : SlTy Tryz.prog 311 102 1 := ⟨by kernel_rfl, fun w => by kernel_rfl⟩
instance tz331 : ZeroTy Tryz.prog 331 [.pointer none, .slice none 0 0] := ⟨.agg #[.pointer none, .slice none 0 0], fun w => by kernel_rfl, rfl⟩
instance tl3 : EltTy Tryz.prog 3 1 8 := eltTy_of (by kernel_rfl)
instance tl38 : EltTy Tryz.prog 38 2 16 := eltTy_of (by kernel_rfl)
instance tl39 : EltTy Tryz.prog 39 1 16 := eltTy_of (by kernel_rfl)
instance tl42 : EltTy Tryz.prog 42 5 80 := eltTy_of (by kernel_rfl)
instance tl45 : EltTy Tryz.prog 45 5 80 := eltTy_of (by kernel_rfl)
instance tl102 : EltTy Tryz.prog 102 1 24 := eltTy_of (by kernel_rfl)
theorem tm : Tryz.prog.follows .mixedOrders = true := by kernel_rfl
end Go.Proofs.YtgepmbjmaljgoaaGreatDoor
