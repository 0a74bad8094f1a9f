/- Facts on the types and functions of this seat, a row each, written by a program (wip/sl/tygen.py). -/
import Derived.Test.YtffhbdgoikkngaaDoorSg
import Derived.Test.YtffhbdgoikkngaaDoorProg
import Derived.KernelRfl
namespace Go.Proofs.YtffhbdgoikkngaaDoorS
set_option maxRecDepth 100000
instance : Sc Tryd.prog 1 (.nilFunc) := ⟨fun w => by kernel_rfl, fun w => by kernel_rfl, fun w => by kernel_rfl, rfl⟩
instance : Sc Tryd.prog 2 (.int .i64 (0)) := ⟨fun w => by kernel_rfl, fun w => by kernel_rfl, fun w => by kernel_rfl, rfl⟩
instance : IntT Tryd.prog 2 .i64 := ⟨by kernel_rfl⟩
instance : Sc Tryd.prog 3 (.int .i64 (0)) := ⟨fun w => by kernel_rfl, fun w => by kernel_rfl, fun w => by kernel_rfl, rfl⟩
instance : IntT Tryd.prog 3 .i64 := ⟨by kernel_rfl⟩
instance : Sc Tryd.prog 4 (.bool false) := ⟨fun w => by kernel_rfl, fun w => by kernel_rfl, fun w => by kernel_rfl, rfl⟩
instance : Sc Tryd.prog 5 (.int .u8 (0)) := ⟨fun w => by kernel_rfl, fun w => by kernel_rfl, fun w => by kernel_rfl, rfl⟩
instance : IntT Tryd.prog 5 .u8 := ⟨by kernel_rfl⟩
instance : Sc Tryd.prog 12 (.int .u64 (0)) := ⟨fun w => by kernel_rfl, fun w => by kernel_rfl, fun w => by kernel_rfl, rfl⟩
instance : IntT Tryd.prog 12 .u64 := ⟨by kernel_rfl⟩
instance : Ag Tryd.prog 13 2 [.string ByteArray.empty, .int .u64 (0)] := ⟨fun w => by kernel_rfl, fun w => by kernel_rfl, fun w => by kernel_rfl⟩
instance : Fld Tryd.prog 13 0 0 := ⟨fun a w => by kernel_rfl⟩
instance : Fld Tryd.prog 13 1 1 := ⟨fun a w => by kernel_rfl⟩
instance : Lay Tryd.prog 13 [(0, 1), (1, 1)] [.string ByteArray.empty, .int .u64 (0)] := ⟨fun w => by kernel_rfl, _, Tryd.underlying13, fun w => by kernel_rfl⟩
instance : Ag Tryd.prog 19 1 [.pointer none] := ⟨fun w => by kernel_rfl, fun w => by kernel_rfl, fun w => by kernel_rfl⟩
instance : Fld Tryd.prog 19 0 0 := ⟨fun a w => by kernel_rfl⟩
instance : Lay Tryd.prog 19 [(0, 1)] [.pointer none] := ⟨fun w => by kernel_rfl, _, Tryd.underlying19, fun w => by kernel_rfl⟩
instance : Sc Tryd.prog 20 (.nilIface) := ⟨fun w => by kernel_rfl, fun w => by kernel_rfl, fun w => by kernel_rfl, rfl⟩
instance : Sc Tryd.prog 21 (.int .i32 (0)) := ⟨fun w => by kernel_rfl, fun w => by kernel_rfl, fun w => by kernel_rfl, rfl⟩
instance : IntT Tryd.prog 21 .i32 := ⟨by kernel_rfl⟩
instance : Ag Tryd.prog 22 5 [.int .i64 (0), .int .i64 (0), .int .i64 (0), .int .i64 (0), .int .i64 (0)] := ⟨fun w => by kernel_rfl, fun w => by kernel_rfl, fun w => by kernel_rfl⟩
instance : Fld Tryd.prog 22 0 0 := ⟨fun a w => by kernel_rfl⟩
instance : Fld Tryd.prog 22 1 1 := ⟨fun a w => by kernel_rfl⟩
instance : Fld Tryd.prog 22 2 2 := ⟨fun a w => by kernel_rfl⟩
instance : Fld Tryd.prog 22 3 3 := ⟨fun a w => by kernel_rfl⟩
instance : Fld Tryd.prog 22 4 4 := ⟨fun a w => by kernel_rfl⟩
instance : Lay Tryd.prog 22 [(0, 1), (1, 1), (2, 1), (3, 1), (4, 1)] [.int .i64 (0), .int .i64 (0), .int .i64 (0), .int .i64 (0), .int .i64 (0)] := ⟨fun w => by kernel_rfl, _, Tryd.underlying22, fun w => by kernel_rfl⟩
instance : Ag Tryd.prog 23 5 [.int .i64 (0), .int .i64 (0), .int .i64 (0), .int .i64 (0), .int .i64 (0)] := ⟨fun w => by kernel_rfl, fun w => by kernel_rfl, fun w => by kernel_rfl⟩
instance : Fld Tryd.prog 23 0 0 := ⟨fun a w => by kernel_rfl⟩
instance : Fld Tryd.prog 23 1 1 := ⟨fun a w => by kernel_rfl⟩
instance : Fld Tryd.prog 23 2 2 := ⟨fun a w => by kernel_rfl⟩
instance : Fld Tryd.prog 23 3 3 := ⟨fun a w => by kernel_rfl⟩
instance : Fld Tryd.prog 23 4 4 := ⟨fun a w => by kernel_rfl⟩
instance : Lay Tryd.prog 23 [(0, 1), (1, 1), (2, 1), (3, 1), (4, 1)] [.int .i64 (0), .int .i64 (0), .int .i64 (0), .int .i64 (0), .int .i64 (0)] := ⟨fun w => by kernel_rfl, _, Tryd.underlying23, fun w => by kernel_rfl⟩
instance : Sc Tryd.prog 24 (.slice none 0 0) := ⟨fun w => by kernel_rfl, fun w => by kernel_rfl, fun w => by kernel_rfl, rfl⟩
instance : Slc Tryd.prog 24 3 1 8 [.int .i64 (0)] := ⟨by kernel_rfl, fun w => by kernel_rfl, by kernel_rfl, rfl, by decide⟩
instance : Sc Tryd.prog 25 (.int .u64 (0)) := ⟨fun w => by kernel_rfl, fun w => by kernel_rfl, fun w => by kernel_rfl, rfl⟩
instance : IntT Tryd.prog 25 .u64 := ⟨by kernel_rfl⟩
instance : Ag Tryd.prog 26 5 [.int .u64 (0), .int .u64 (0), .int .i64 (0), .int .i64 (0), .int .i64 (0)] := ⟨fun w => by kernel_rfl, fun w => by kernel_rfl, fun w => by kernel_rfl⟩
instance : Fld Tryd.prog 26 0 0 := ⟨fun a w => by kernel_rfl⟩
instance : Fld Tryd.prog 26 1 1 := ⟨fun a w => by kernel_rfl⟩
instance : Fld Tryd.prog 26 2 2 := ⟨fun a w => by kernel_rfl⟩
instance : Fld Tryd.prog 26 3 3 := ⟨fun a w => by kernel_rfl⟩
instance : Fld Tryd.prog 26 4 4 := ⟨fun a w => by kernel_rfl⟩
instance : Lay Tryd.prog 26 [(0, 1), (1, 1), (2, 1), (3, 1), (4, 1)] [.int .u64 (0), .int .u64 (0), .int .i64 (0), .int .i64 (0), .int .i64 (0)] := ⟨fun w => by kernel_rfl, _, Tryd.underlying26, fun w => by kernel_rfl⟩
instance : Ag Tryd.prog 27 5 [.int .u64 (0), .int .u64 (0), .int .i64 (0), .int .i64 (0), .int .i64 (0)] := ⟨fun w => by kernel_rfl, fun w => by kernel_rfl, fun w => by kernel_rfl⟩
instance : Fld Tryd.prog 27 0 0 := ⟨fun a w => by kernel_rfl⟩
instance : Fld Tryd.prog 27 1 1 := ⟨fun a w => by kernel_rfl⟩
instance : Fld Tryd.prog 27 2 2 := ⟨fun a w => by kernel_rfl⟩
instance : Fld Tryd.prog 27 3 3 := ⟨fun a w => by kernel_rfl⟩
instance : Fld Tryd.prog 27 4 4 := ⟨fun a w => by kernel_rfl⟩
instance : Lay Tryd.prog 27 [(0, 1), (1, 1), (2, 1), (3, 1), (4, 1)] [.int .u64 (0), .int .u64 (0), .int .i64 (0), .int .i64 (0), .int .i64 (0)] := ⟨fun w => by kernel_rfl, _, Tryd.underlying27, fun w => by kernel_rfl⟩
instance : Sc Tryd.prog 28 (.slice none 0 0) := ⟨fun w => by kernel_rfl, fun w => by kernel_rfl, fun w => by kernel_rfl, rfl⟩
instance : Slc Tryd.prog 28 27 5 40 [.int .u64 (0), .int .u64 (0), .int .i64 (0), .int .i64 (0), .int .i64 (0)] := ⟨by kernel_rfl, fun w => by kernel_rfl, by kernel_rfl, rfl, by decide⟩
instance : Sc Tryd.prog 29 (.nilFunc) := ⟨fun w => by kernel_rfl, fun w => by kernel_rfl, fun w => by kernel_rfl, rfl⟩
instance : Sc Tryd.prog 30 (.slice none 0 0) := ⟨fun w => by kernel_rfl, fun w => by kernel_rfl, fun w => by kernel_rfl, rfl⟩
instance : Slc Tryd.prog 30 23 5 40 [.int .i64 (0), .int .i64 (0), .int .i64 (0), .int .i64 (0), .int .i64 (0)] := ⟨by kernel_rfl, fun w => by kernel_rfl, by kernel_rfl, rfl, by decide⟩
instance : Ag Tryd.prog 31 1 [.int .i64 (0)] := ⟨fun w => by kernel_rfl, fun w => by kernel_rfl, fun w => by kernel_rfl⟩
instance : Fld Tryd.prog 31 0 0 := ⟨fun a w => by kernel_rfl⟩
instance : Lay Tryd.prog 31 [(0, 1)] [.int .i64 (0)] := ⟨fun w => by kernel_rfl, _, Tryd.underlying31, fun w => by kernel_rfl⟩
instance : Ag Tryd.prog 32 1 [.int .i64 (0)] := ⟨fun w => by kernel_rfl, fun w => by kernel_rfl, fun w => by kernel_rfl⟩
instance : Fld Tryd.prog 32 0 0 := ⟨fun a w => by kernel_rfl⟩
instance : Lay Tryd.prog 32 [(0, 1)] [.int .i64 (0)] := ⟨fun w => by kernel_rfl, _, Tryd.underlying32, fun w => by kernel_rfl⟩
instance : Ag Tryd.prog 33 3 [.int .i64 (0), .int .i64 (0), .int .i64 (0)] := ⟨fun w => by kernel_rfl, fun w => by kernel_rfl, fun w => by kernel_rfl⟩
instance : Fld Tryd.prog 33 0 0 := ⟨fun a w => by kernel_rfl⟩
instance : Fld Tryd.prog 33 1 1 := ⟨fun a w => by kernel_rfl⟩
instance : Fld Tryd.prog 33 2 2 := ⟨fun a w => by kernel_rfl⟩
instance : Lay Tryd.prog 33 [(0, 1), (1, 1), (2, 1)] [.int .i64 (0), .int .i64 (0), .int .i64 (0)] := ⟨fun w => by kernel_rfl, _, Tryd.underlying33, fun w => by kernel_rfl⟩
instance : Ag Tryd.prog 34 3 [.int .i64 (0), .int .i64 (0), .int .i64 (0)] := ⟨fun w => by kernel_rfl, fun w => by kernel_rfl, fun w => by kernel_rfl⟩
instance : Fld Tryd.prog 34 0 0 := ⟨fun a w => by kernel_rfl⟩
instance : Fld Tryd.prog 34 1 1 := ⟨fun a w => by kernel_rfl⟩
instance : Fld Tryd.prog 34 2 2 := ⟨fun a w => by kernel_rfl⟩
instance : Lay Tryd.prog 34 [(0, 1), (1, 1), (2, 1)] [.int .i64 (0), .int .i64 (0), .int .i64 (0)] := ⟨fun w => by kernel_rfl, _, Tryd.underlying34, fun w => by kernel_rfl⟩
instance : Ag Tryd.prog 35 4 [.int .i64 (0), .int .i64 (0), .int .i64 (0), .int .u64 (0)] := ⟨fun w => by kernel_rfl, fun w => by kernel_rfl, fun w => by kernel_rfl⟩
instance : Fld Tryd.prog 35 0 0 := ⟨fun a w => by kernel_rfl⟩
instance : Fld Tryd.prog 35 1 3 := ⟨fun a w => by kernel_rfl⟩
instance : Lay Tryd.prog 35 [(0, 3), (3, 1)] [.int .i64 (0), .int .i64 (0), .int .i64 (0), .int .u64 (0)] := ⟨fun w => by kernel_rfl, _, Tryd.underlying35, fun w => by kernel_rfl⟩
instance : Ag Tryd.prog 36 4 [.int .i64 (0), .int .i64 (0), .int .i64 (0), .int .u64 (0)] := ⟨fun w => by kernel_rfl, fun w => by kernel_rfl, fun w => by kernel_rfl⟩
instance : Fld Tryd.prog 36 0 0 := ⟨fun a w => by kernel_rfl⟩
instance : Fld Tryd.prog 36 1 3 := ⟨fun a w => by kernel_rfl⟩
instance : Lay Tryd.prog 36 [(0, 3), (3, 1)] [.int .i64 (0), .int .i64 (0), .int .i64 (0), .int .u64 (0)] := ⟨fun w => by kernel_rfl, _, Tryd.underlying36, fun w => by kernel_rfl⟩
instance : Sc Tryd.prog 37 (.nilFunc) := ⟨fun w => by kernel_rfl, fun w => by kernel_rfl, fun w => by kernel_rfl, rfl⟩
instance : Ag Tryd.prog 38 4 [.int .i64 (0), .int .i64 (0), .int .i64 (0), .bool false] := ⟨fun w => by kernel_rfl, fun w => by kernel_rfl, fun w => by kernel_rfl⟩
instance : Fld Tryd.prog 38 0 0 := ⟨fun a w => by kernel_rfl⟩
instance : Fld Tryd.prog 38 1 1 := ⟨fun a w => by kernel_rfl⟩
instance : Fld Tryd.prog 38 2 2 := ⟨fun a w => by kernel_rfl⟩
instance : Fld Tryd.prog 38 3 3 := ⟨fun a w => by kernel_rfl⟩
instance : Lay Tryd.prog 38 [(0, 1), (1, 1), (2, 1), (3, 1)] [.int .i64 (0), .int .i64 (0), .int .i64 (0), .bool false] := ⟨fun w => by kernel_rfl, _, Tryd.underlying38, fun w => by kernel_rfl⟩
instance : Ag Tryd.prog 39 4 [.int .i64 (0), .int .i64 (0), .int .i64 (0), .bool false] := ⟨fun w => by kernel_rfl, fun w => by kernel_rfl, fun w => by kernel_rfl⟩
instance : Fld Tryd.prog 39 0 0 := ⟨fun a w => by kernel_rfl⟩
instance : Fld Tryd.prog 39 1 1 := ⟨fun a w => by kernel_rfl⟩
instance : Fld Tryd.prog 39 2 2 := ⟨fun a w => by kernel_rfl⟩
instance : Fld Tryd.prog 39 3 3 := ⟨fun a w => by kernel_rfl⟩
instance : Lay Tryd.prog 39 [(0, 1), (1, 1), (2, 1), (3, 1)] [.int .i64 (0), .int .i64 (0), .int .i64 (0), .bool false] := ⟨fun w => by kernel_rfl, _, Tryd.underlying39, fun w => by kernel_rfl⟩
instance : Sc Tryd.prog 40 (.nilFunc) := ⟨fun w => by kernel_rfl, fun w => by kernel_rfl, fun w => by kernel_rfl, rfl⟩
instance : Sc Tryd.prog 41 (.nilFunc) := ⟨fun w => by kernel_rfl, fun w => by kernel_rfl, fun w => by kernel_rfl, rfl⟩
instance : Sc Tryd.prog 42 (.nilFunc) := ⟨fun w => by kernel_rfl, fun w => by kernel_rfl, fun w => by kernel_rfl, rfl⟩
instance : Ag Tryd.prog 43 5 [.int .i64 (0), .int .i64 (0), .int .i64 (0), .int .i64 (0), .int .u64 (0)] := ⟨fun w => by kernel_rfl, fun w => by kernel_rfl, fun w => by kernel_rfl⟩
instance : Fld Tryd.prog 43 0 0 := ⟨fun a w => by kernel_rfl⟩
instance : Fld Tryd.prog 43 1 1 := ⟨fun a w => by kernel_rfl⟩
instance : Fld Tryd.prog 43 2 2 := ⟨fun a w => by kernel_rfl⟩
instance : Fld Tryd.prog 43 3 3 := ⟨fun a w => by kernel_rfl⟩
instance : Fld Tryd.prog 43 4 4 := ⟨fun a w => by kernel_rfl⟩
instance : Lay Tryd.prog 43 [(0, 1), (1, 1), (2, 1), (3, 1), (4, 1)] [.int .i64 (0), .int .i64 (0), .int .i64 (0), .int .i64 (0), .int .u64 (0)] := ⟨fun w => by kernel_rfl, _, Tryd.underlying43, fun w => by kernel_rfl⟩
instance : Ag Tryd.prog 44 5 [.int .i64 (0), .int .i64 (0), .int .i64 (0), .int .i64 (0), .int .u64 (0)] := ⟨fun w => by kernel_rfl, fun w => by kernel_rfl, fun w => by kernel_rfl⟩
instance : Fld Tryd.prog 44 0 0 := ⟨fun a w => by kernel_rfl⟩
instance : Fld Tryd.prog 44 1 1 := ⟨fun a w => by kernel_rfl⟩
instance : Fld Tryd.prog 44 2 2 := ⟨fun a w => by kernel_rfl⟩
instance : Fld Tryd.prog 44 3 3 := ⟨fun a w => by kernel_rfl⟩
instance : Fld Tryd.prog 44 4 4 := ⟨fun a w => by kernel_rfl⟩
instance : Lay Tryd.prog 44 [(0, 1), (1, 1), (2, 1), (3, 1), (4, 1)] [.int .i64 (0), .int .i64 (0), .int .i64 (0), .int .i64 (0), .int .u64 (0)] := ⟨fun w => by kernel_rfl, _, Tryd.underlying44, fun w => by kernel_rfl⟩
instance : Sc Tryd.prog 45 (.nilFunc) := ⟨fun w => by kernel_rfl, fun w => by kernel_rfl, fun w => by kernel_rfl, rfl⟩
instance : Sc Tryd.prog 46 (.nilFunc) := ⟨fun w => by kernel_rfl, fun w => by kernel_rfl, fun w => by kernel_rfl, rfl⟩
instance : Sc Tryd.prog 47 (.nilFunc) := ⟨fun w => by kernel_rfl, fun w => by kernel_rfl, fun w => by kernel_rfl, rfl⟩
instance : Sc Tryd.prog 48 (.nilFunc) := ⟨fun w => by kernel_rfl, fun w => by kernel_rfl, fun w => by kernel_rfl, rfl⟩
instance : Sc Tryd.prog 49 (.nilFunc) := ⟨fun w => by kernel_rfl, fun w => by kernel_rfl, fun w => by kernel_rfl, rfl⟩
instance : Sc Tryd.prog 50 (.pointer none) := ⟨fun w => by kernel_rfl, fun w => by kernel_rfl, fun w => by kernel_rfl, rfl⟩
instance : Sc Tryd.prog 51 (.slice none 0 0) := ⟨fun w => by kernel_rfl, fun w => by kernel_rfl, fun w => by kernel_rfl, rfl⟩
instance : Slc Tryd.prog 51 44 5 40 [.int .i64 (0), .int .i64 (0), .int .i64 (0), .int .i64 (0), .int .u64 (0)] := ⟨by kernel_rfl, fun w => by kernel_rfl, by kernel_rfl, rfl, by decide⟩
instance : Sc Tryd.prog 52 (.nilFunc) := ⟨fun w => by kernel_rfl, fun w => by kernel_rfl, fun w => by kernel_rfl, rfl⟩
instance : Sc Tryd.prog 53 (.nilFunc) := ⟨fun w => by kernel_rfl, fun w => by kernel_rfl, fun w => by kernel_rfl, rfl⟩
instance : Sc Tryd.prog 54 (.nilFunc) := ⟨fun w => by kernel_rfl, fun w => by kernel_rfl, fun w => by kernel_rfl, rfl⟩
instance : Sc Tryd.prog 55 (.nilFunc) := ⟨fun w => by kernel_rfl, fun w => by kernel_rfl, fun w => by kernel_rfl, rfl⟩
instance : Sc Tryd.prog 56 (.nilFunc) := ⟨fun w => by kernel_rfl, fun w => by kernel_rfl, fun w => by kernel_rfl, rfl⟩
instance : Sc Tryd.prog 58 (.nilFunc) := ⟨fun w => by kernel_rfl, fun w => by kernel_rfl, fun w => by kernel_rfl, rfl⟩
instance : Ag Tryd.prog 59 64 [.int .u8 (0), .int .u8 (0), .int .u8 (0), .int .u8 (0), .int .u8 (0), .int .u8 (0), .int .u8 (0), .int .u8 (0), .int .u8 (0), .int .u8 (0), .int .u8 (0), .int .u8 (0), .int .u8 (0), .int .u8 (0), .int .u8 (0), .int .u8 (0), .int .u8 (0), .int .u8 (0), .int .u8 (0), .int .u8 (0), .int .u8 (0), .int .u8 (0), .int .u8 (0), .int .u8 (0), .int .u8 (0), .int .u8 (0), .int .u8 (0), .int .u8 (0), .int .u8 (0), .int .u8 (0), .int .u8 (0), .int .u8 (0), .int .u8 (0), .int .u8 (0), .int .u8 (0), .int .u8 (0), .int .u8 (0), .int .u8 (0), .int .u8 (0), .int .u8 (0), .int .u8 (0), .int .u8 (0), .int .u8 (0), .int .u8 (0), .int .u8 (0), .int .u8 (0), .int .u8 (0), .int .u8 (0), .int .u8 (0), .int .u8 (0), .int .u8 (0), .int .u8 (0), .int .u8 (0), .int .u8 (0), .int .u8 (0), .int .u8 (0), .int .u8 (0), .int .u8 (0), .int .u8 (0), .int .u8 (0), .int .u8 (0), .int .u8 (0), .int .u8 (0), .int .u8 (0)] := ⟨fun w => by kernel_rfl, fun w => by kernel_rfl, fun w => by kernel_rfl⟩
instance : Arr Tryd.prog 59 64 5 1 := ⟨by kernel_rfl, fun w => by kernel_rfl⟩
instance : Sc Tryd.prog 60 (.int .u64 (0)) := ⟨fun w => by kernel_rfl, fun w => by kernel_rfl, fun w => by kernel_rfl, rfl⟩
instance : IntT Tryd.prog 60 .u64 := ⟨by kernel_rfl⟩
instance : Sc Tryd.prog 61 (.nilFunc) := ⟨fun w => by kernel_rfl, fun w => by kernel_rfl, fun w => by kernel_rfl, rfl⟩
instance : Sc Tryd.prog 62 (.nilFunc) := ⟨fun w => by kernel_rfl, fun w => by kernel_rfl, fun w => by kernel_rfl, rfl⟩
instance : Sc Tryd.prog 63 (.pointer none) := ⟨fun w => by kernel_rfl, fun w => by kernel_rfl, fun w => by kernel_rfl, rfl⟩
instance : Sc Tryd.prog 64 (.nilFunc) := ⟨fun w => by kernel_rfl, fun w => by kernel_rfl, fun w => by kernel_rfl, rfl⟩
instance : Sc Tryd.prog 65 (.slice none 0 0) := ⟨fun w => by kernel_rfl, fun w => by kernel_rfl, fun w => by kernel_rfl, rfl⟩
instance : Slc Tryd.prog 65 25 1 8 [.int .u64 (0)] := ⟨by kernel_rfl, fun w => by kernel_rfl, by kernel_rfl, rfl, by decide⟩
instance : Sc Tryd.prog 66 (.nilFunc) := ⟨fun w => by kernel_rfl, fun w => by kernel_rfl, fun w => by kernel_rfl, rfl⟩
instance : Sc Tryd.prog 67 (.pointer none) := ⟨fun w => by kernel_rfl, fun w => by kernel_rfl, fun w => by kernel_rfl, rfl⟩
instance : Sc Tryd.prog 68 (.nilFunc) := ⟨fun w => by kernel_rfl, fun w => by kernel_rfl, fun w => by kernel_rfl, rfl⟩
instance : Sc Tryd.prog 74 (.nilFunc) := ⟨fun w => by kernel_rfl, fun w => by kernel_rfl, fun w => by kernel_rfl, rfl⟩
instance : Sc Tryd.prog 75 (.int .u32 (0)) := ⟨fun w => by kernel_rfl, fun w => by kernel_rfl, fun w => by kernel_rfl, rfl⟩
instance : IntT Tryd.prog 75 .u32 := ⟨by kernel_rfl⟩
instance : Sc Tryd.prog 79 (.pointer none) := ⟨fun w => by kernel_rfl, fun w => by kernel_rfl, fun w => by kernel_rfl, rfl⟩
instance : Goes Tryd.prog 3 := ⟨_, Tryd.func3, by kernel_rfl, rfl⟩
instance : Goes Tryd.prog 4 := ⟨_, Tryd.func4, by kernel_rfl, rfl⟩
instance : Goes Tryd.prog 5 := ⟨_, Tryd.func5, by kernel_rfl, rfl⟩
instance : Goes Tryd.prog 6 := ⟨_, Tryd.func6, by kernel_rfl, rfl⟩
instance : Goes Tryd.prog 7 := ⟨_, Tryd.func7, by kernel_rfl, rfl⟩
instance : Goes Tryd.prog 8 := ⟨_, Tryd.func8, by kernel_rfl, rfl⟩
instance : Goes Tryd.prog 9 := ⟨_, Tryd.func9, by kernel_rfl, rfl⟩
instance : Goes Tryd.prog 10 := ⟨_, Tryd.func10, by kernel_rfl, rfl⟩
instance : Goes Tryd.prog 11 := ⟨_, Tryd.func11, by kernel_rfl, rfl⟩
instance : Goes Tryd.prog 12 := ⟨_, Tryd.func12, by kernel_rfl, rfl⟩
instance : Goes Tryd.prog 13 := ⟨_, Tryd.func13, by kernel_rfl, rfl⟩
instance : Goes Tryd.prog 14 := ⟨_, Tryd.func14, by kernel_rfl, rfl⟩
instance : Goes Tryd.prog 15 := ⟨_, Tryd.func15, by kernel_rfl, rfl⟩
instance : Goes Tryd.prog 16 := ⟨_, Tryd.func16, by kernel_rfl, rfl⟩
instance : Goes Tryd.prog 17 := ⟨_, Tryd.func17, by kernel_rfl, rfl⟩
instance : Goes Tryd.prog 18 := ⟨_, Tryd.func18, by kernel_rfl, rfl⟩
instance : Goes Tryd.prog 19 := ⟨_, Tryd.func19, by kernel_rfl, rfl⟩
instance : Goes Tryd.prog 20 := ⟨_, Tryd.func20, by kernel_rfl, rfl⟩
instance : Goes Tryd.prog 21 := ⟨_, Tryd.func21, by kernel_rfl, rfl⟩
instance : Goes Tryd.prog 22 := ⟨_, Tryd.func22, by kernel_rfl, rfl⟩
instance : Goes Tryd.prog 23 := ⟨_, Tryd.func23, by kernel_rfl, rfl⟩
instance : Goes Tryd.prog 24 := ⟨_, Tryd.func24, by kernel_rfl, rfl⟩
instance : Mixed Tryd.prog := ⟨by kernel_rfl⟩
end Go.Proofs.YtffhbdgoikkngaaDoorS
