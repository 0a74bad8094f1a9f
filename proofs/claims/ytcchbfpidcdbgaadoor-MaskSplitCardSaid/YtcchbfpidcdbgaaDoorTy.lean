/- Facts on the types and functions of this seat, a row each, written by a program (wip/sl/tygen.py). -/
import Derived.Test.YtcchbfpidcdbgaaDoorSg
import Derived.Test.YtcchbfpidcdbgaaDoorProg
import Derived.KernelRfl
namespace Go.Proofs.YtcchbfpidcdbgaaDoorS
set_option maxRecDepth 100000
instance : Sc Tryd.prog 1 (.nilFunc) := ⟨fun w => by kernel_rfl, fun w => by kernel_rfl, fun w => by kernel_rfl, rfl⟩
instance : Sc Tryd.prog 2 (.int .i64 (0)) := ⟨fun w => by kernel_rfl, fun w => by kernel_rfl, fun w => by kernel_rfl, rfl⟩
instance : IntT Tryd.prog 2 .i64 := ⟨by kernel_rfl⟩
instance : Sc Tryd.prog 3 (.int .i64 (0)) := ⟨fun w => by kernel_rfl, fun w => by kernel_rfl, fun w => by kernel_rfl, rfl⟩
instance : IntT Tryd.prog 3 .i64 := ⟨by kernel_rfl⟩
instance : Sc Tryd.prog 4 (.bool false) := ⟨fun w => by kernel_rfl, fun w => by kernel_rfl, fun w => by kernel_rfl, rfl⟩
instance : Sc Tryd.prog 5 (.int .u8 (0)) := ⟨fun w => by kernel_rfl, fun w => by kernel_rfl, fun w => by kernel_rfl, rfl⟩
instance : IntT Tryd.prog 5 .u8 := ⟨by kernel_rfl⟩
instance : Sc Tryd.prog 12 (.int .u64 (0)) := ⟨fun w => by kernel_rfl, fun w => by kernel_rfl, fun w => by kernel_rfl, rfl⟩
instance : IntT Tryd.prog 12 .u64 := ⟨by kernel_rfl⟩
instance : Ag Tryd.prog 13 2 [.string ByteArray.empty, .int .u64 (0)] := ⟨fun w => by kernel_rfl, fun w => by kernel_rfl, fun w => by kernel_rfl⟩
instance : Fld Tryd.prog 13 0 0 := ⟨fun a w => by kernel_rfl⟩
instance : Fld Tryd.prog 13 1 1 := ⟨fun a w => by kernel_rfl⟩
instance : Lay Tryd.prog 13 [(0, 1), (1, 1)] [.string ByteArray.empty, .int .u64 (0)] := ⟨fun w => by kernel_rfl, _, Tryd.underlying13, fun w => by kernel_rfl⟩
instance : Ag Tryd.prog 19 1 [.pointer none] := ⟨fun w => by kernel_rfl, fun w => by kernel_rfl, fun w => by kernel_rfl⟩
instance : Fld Tryd.prog 19 0 0 := ⟨fun a w => by kernel_rfl⟩
instance : Lay Tryd.prog 19 [(0, 1)] [.pointer none] := ⟨fun w => by kernel_rfl, _, Tryd.underlying19, fun w => by kernel_rfl⟩
instance : Sc Tryd.prog 20 (.nilIface) := ⟨fun w => by kernel_rfl, fun w => by kernel_rfl, fun w => by kernel_rfl, rfl⟩
instance : Sc Tryd.prog 21 (.int .i32 (0)) := ⟨fun w => by kernel_rfl, fun w => by kernel_rfl, fun w => by kernel_rfl, rfl⟩
instance : IntT Tryd.prog 21 .i32 := ⟨by kernel_rfl⟩
instance : Sc Tryd.prog 23 (.nilFunc) := ⟨fun w => by kernel_rfl, fun w => by kernel_rfl, fun w => by kernel_rfl, rfl⟩
instance : Sc Tryd.prog 24 (.int .u64 (0)) := ⟨fun w => by kernel_rfl, fun w => by kernel_rfl, fun w => by kernel_rfl, rfl⟩
instance : IntT Tryd.prog 24 .u64 := ⟨by kernel_rfl⟩
instance : Sc Tryd.prog 25 (.nilFunc) := ⟨fun w => by kernel_rfl, fun w => by kernel_rfl, fun w => by kernel_rfl, rfl⟩
instance : Sc Tryd.prog 26 (.nilFunc) := ⟨fun w => by kernel_rfl, fun w => by kernel_rfl, fun w => by kernel_rfl, rfl⟩
instance : Sc Tryd.prog 27 (.nilFunc) := ⟨fun w => by kernel_rfl, fun w => by kernel_rfl, fun w => by kernel_rfl, rfl⟩
instance : Sc Tryd.prog 28 (.slice none 0 0) := ⟨fun w => by kernel_rfl, fun w => by kernel_rfl, fun w => by kernel_rfl, rfl⟩
instance : Slc Tryd.prog 28 3 1 8 [.int .i64 (0)] := ⟨by kernel_rfl, fun w => by kernel_rfl, by kernel_rfl, rfl, by decide⟩
instance : Sc Tryd.prog 29 (.nilFunc) := ⟨fun w => by kernel_rfl, fun w => by kernel_rfl, fun w => by kernel_rfl, rfl⟩
instance : Sc Tryd.prog 30 (.nilFunc) := ⟨fun w => by kernel_rfl, fun w => by kernel_rfl, fun w => by kernel_rfl, rfl⟩
instance : Sc Tryd.prog 31 (.nilFunc) := ⟨fun w => by kernel_rfl, fun w => by kernel_rfl, fun w => by kernel_rfl, rfl⟩
instance : Sc Tryd.prog 32 (.nilFunc) := ⟨fun w => by kernel_rfl, fun w => by kernel_rfl, fun w => by kernel_rfl, rfl⟩
instance : Sc Tryd.prog 33 (.nilFunc) := ⟨fun w => by kernel_rfl, fun w => by kernel_rfl, fun w => by kernel_rfl, rfl⟩
instance : Sc Tryd.prog 34 (.nilFunc) := ⟨fun w => by kernel_rfl, fun w => by kernel_rfl, fun w => by kernel_rfl, rfl⟩
instance : Sc Tryd.prog 35 (.int .u64 (0)) := ⟨fun w => by kernel_rfl, fun w => by kernel_rfl, fun w => by kernel_rfl, rfl⟩
instance : IntT Tryd.prog 35 .u64 := ⟨by kernel_rfl⟩
instance : Sc Tryd.prog 36 (.nilFunc) := ⟨fun w => by kernel_rfl, fun w => by kernel_rfl, fun w => by kernel_rfl, rfl⟩
instance : Sc Tryd.prog 37 (.nilFunc) := ⟨fun w => by kernel_rfl, fun w => by kernel_rfl, fun w => by kernel_rfl, rfl⟩
instance : Sc Tryd.prog 38 (.nilFunc) := ⟨fun w => by kernel_rfl, fun w => by kernel_rfl, fun w => by kernel_rfl, rfl⟩
instance : Sc Tryd.prog 39 (.nilFunc) := ⟨fun w => by kernel_rfl, fun w => by kernel_rfl, fun w => by kernel_rfl, rfl⟩
instance : Sc Tryd.prog 40 (.nilFunc) := ⟨fun w => by kernel_rfl, fun w => by kernel_rfl, fun w => by kernel_rfl, rfl⟩
instance : Sc Tryd.prog 41 (.slice none 0 0) := ⟨fun w => by kernel_rfl, fun w => by kernel_rfl, fun w => by kernel_rfl, rfl⟩
instance : Slc Tryd.prog 41 24 1 8 [.int .u64 (0)] := ⟨by kernel_rfl, fun w => by kernel_rfl, by kernel_rfl, rfl, by decide⟩
instance : Sc Tryd.prog 42 (.nilFunc) := ⟨fun w => by kernel_rfl, fun w => by kernel_rfl, fun w => by kernel_rfl, rfl⟩
instance : Sc Tryd.prog 43 (.nilFunc) := ⟨fun w => by kernel_rfl, fun w => by kernel_rfl, fun w => by kernel_rfl, rfl⟩
instance : Ag Tryd.prog 44 64 [.int .u8 (0), .int .u8 (0), .int .u8 (0), .int .u8 (0), .int .u8 (0), .int .u8 (0), .int .u8 (0), .int .u8 (0), .int .u8 (0), .int .u8 (0), .int .u8 (0), .int .u8 (0), .int .u8 (0), .int .u8 (0), .int .u8 (0), .int .u8 (0), .int .u8 (0), .int .u8 (0), .int .u8 (0), .int .u8 (0), .int .u8 (0), .int .u8 (0), .int .u8 (0), .int .u8 (0), .int .u8 (0), .int .u8 (0), .int .u8 (0), .int .u8 (0), .int .u8 (0), .int .u8 (0), .int .u8 (0), .int .u8 (0), .int .u8 (0), .int .u8 (0), .int .u8 (0), .int .u8 (0), .int .u8 (0), .int .u8 (0), .int .u8 (0), .int .u8 (0), .int .u8 (0), .int .u8 (0), .int .u8 (0), .int .u8 (0), .int .u8 (0), .int .u8 (0), .int .u8 (0), .int .u8 (0), .int .u8 (0), .int .u8 (0), .int .u8 (0), .int .u8 (0), .int .u8 (0), .int .u8 (0), .int .u8 (0), .int .u8 (0), .int .u8 (0), .int .u8 (0), .int .u8 (0), .int .u8 (0), .int .u8 (0), .int .u8 (0), .int .u8 (0), .int .u8 (0)] := ⟨fun w => by kernel_rfl, fun w => by kernel_rfl, fun w => by kernel_rfl⟩
instance : Arr Tryd.prog 44 64 5 1 := ⟨by kernel_rfl, fun w => by kernel_rfl⟩
instance : Sc Tryd.prog 45 (.nilFunc) := ⟨fun w => by kernel_rfl, fun w => by kernel_rfl, fun w => by kernel_rfl, rfl⟩
instance : Sc Tryd.prog 51 (.nilFunc) := ⟨fun w => by kernel_rfl, fun w => by kernel_rfl, fun w => by kernel_rfl, rfl⟩
instance : Sc Tryd.prog 52 (.int .u32 (0)) := ⟨fun w => by kernel_rfl, fun w => by kernel_rfl, fun w => by kernel_rfl, rfl⟩
instance : IntT Tryd.prog 52 .u32 := ⟨by kernel_rfl⟩
instance : Sc Tryd.prog 56 (.pointer none) := ⟨fun w => by kernel_rfl, fun w => by kernel_rfl, fun w => by kernel_rfl, rfl⟩
instance : Goes Tryd.prog 3 := ⟨_, Tryd.func3, by kernel_rfl, rfl⟩
instance : Goes Tryd.prog 4 := ⟨_, Tryd.func4, by kernel_rfl, rfl⟩
instance : Goes Tryd.prog 5 := ⟨_, Tryd.func5, by kernel_rfl, rfl⟩
instance : Goes Tryd.prog 6 := ⟨_, Tryd.func6, by kernel_rfl, rfl⟩
instance : Goes Tryd.prog 7 := ⟨_, Tryd.func7, by kernel_rfl, rfl⟩
instance : Goes Tryd.prog 8 := ⟨_, Tryd.func8, by kernel_rfl, rfl⟩
instance : Goes Tryd.prog 9 := ⟨_, Tryd.func9, by kernel_rfl, rfl⟩
instance : Goes Tryd.prog 10 := ⟨_, Tryd.func10, by kernel_rfl, rfl⟩
instance : Goes Tryd.prog 11 := ⟨_, Tryd.func11, by kernel_rfl, rfl⟩
instance : Goes Tryd.prog 12 := ⟨_, Tryd.func12, by kernel_rfl, rfl⟩
instance : Goes Tryd.prog 13 := ⟨_, Tryd.func13, by kernel_rfl, rfl⟩
instance : Goes Tryd.prog 14 := ⟨_, Tryd.func14, by kernel_rfl, rfl⟩
instance : Goes Tryd.prog 15 := ⟨_, Tryd.func15, by kernel_rfl, rfl⟩
instance : Goes Tryd.prog 16 := ⟨_, Tryd.func16, by kernel_rfl, rfl⟩
instance : Goes Tryd.prog 17 := ⟨_, Tryd.func17, by kernel_rfl, rfl⟩
instance : Goes Tryd.prog 18 := ⟨_, Tryd.func18, by kernel_rfl, rfl⟩
instance : Goes Tryd.prog 19 := ⟨_, Tryd.func19, by kernel_rfl, rfl⟩
instance : Goes Tryd.prog 20 := ⟨_, Tryd.func20, by kernel_rfl, rfl⟩
instance : Goes Tryd.prog 21 := ⟨_, Tryd.func21, by kernel_rfl, rfl⟩
instance : Goes Tryd.prog 22 := ⟨_, Tryd.func22, by kernel_rfl, rfl⟩
instance : Goes Tryd.prog 23 := ⟨_, Tryd.func23, by kernel_rfl, rfl⟩
instance : Goes Tryd.prog 24 := ⟨_, Tryd.func24, by kernel_rfl, rfl⟩
instance : Mixed Tryd.prog := ⟨by kernel_rfl⟩
end Go.Proofs.YtcchbfpidcdbgaaDoorS
