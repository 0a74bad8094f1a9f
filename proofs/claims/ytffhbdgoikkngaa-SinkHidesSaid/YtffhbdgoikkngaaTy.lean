/- Facts on the types and functions of this seat, a row each, written by a program (wip/sl/tygen.py). -/
import Derived.Test.YtffhbdgoikkngaaSg
import Derived.Test.YtffhbdgoikkngaaProg
import Derived.KernelRfl
namespace Go.Proofs.YtffhbdgoikkngaaS
set_option maxRecDepth 100000
instance : Sc Try.prog 1 (.nilFunc) := ⟨fun w => by kernel_rfl, fun w => by kernel_rfl, fun w => by kernel_rfl, rfl⟩
instance : Sc Try.prog 2 (.int .i64 (0)) := ⟨fun w => by kernel_rfl, fun w => by kernel_rfl, fun w => by kernel_rfl, rfl⟩
instance : IntT Try.prog 2 .i64 := ⟨by kernel_rfl⟩
instance : Sc Try.prog 3 (.int .i64 (0)) := ⟨fun w => by kernel_rfl, fun w => by kernel_rfl, fun w => by kernel_rfl, rfl⟩
instance : IntT Try.prog 3 .i64 := ⟨by kernel_rfl⟩
instance : Sc Try.prog 4 (.bool false) := ⟨fun w => by kernel_rfl, fun w => by kernel_rfl, fun w => by kernel_rfl, rfl⟩
instance : Sc Try.prog 5 (.int .u8 (0)) := ⟨fun w => by kernel_rfl, fun w => by kernel_rfl, fun w => by kernel_rfl, rfl⟩
instance : IntT Try.prog 5 .u8 := ⟨by kernel_rfl⟩
instance : Sc Try.prog 12 (.int .u64 (0)) := ⟨fun w => by kernel_rfl, fun w => by kernel_rfl, fun w => by kernel_rfl, rfl⟩
instance : IntT Try.prog 12 .u64 := ⟨by kernel_rfl⟩
instance : Ag Try.prog 13 2 [.string ByteArray.empty, .int .u64 (0)] := ⟨fun w => by kernel_rfl, fun w => by kernel_rfl, fun w => by kernel_rfl⟩
instance : Fld Try.prog 13 0 0 := ⟨fun a w => by kernel_rfl⟩
instance : Fld Try.prog 13 1 1 := ⟨fun a w => by kernel_rfl⟩
instance : Lay Try.prog 13 [(0, 1), (1, 1)] [.string ByteArray.empty, .int .u64 (0)] := ⟨fun w => by kernel_rfl, _, Try.underlying13, fun w => by kernel_rfl⟩
instance : Ag Try.prog 19 1 [.pointer none] := ⟨fun w => by kernel_rfl, fun w => by kernel_rfl, fun w => by kernel_rfl⟩
instance : Fld Try.prog 19 0 0 := ⟨fun a w => by kernel_rfl⟩
instance : Lay Try.prog 19 [(0, 1)] [.pointer none] := ⟨fun w => by kernel_rfl, _, Try.underlying19, fun w => by kernel_rfl⟩
instance : Sc Try.prog 20 (.nilIface) := ⟨fun w => by kernel_rfl, fun w => by kernel_rfl, fun w => by kernel_rfl, rfl⟩
instance : Sc Try.prog 21 (.int .i32 (0)) := ⟨fun w => by kernel_rfl, fun w => by kernel_rfl, fun w => by kernel_rfl, rfl⟩
instance : IntT Try.prog 21 .i32 := ⟨by kernel_rfl⟩
instance : Sc Try.prog 22 (.int .u64 (0)) := ⟨fun w => by kernel_rfl, fun w => by kernel_rfl, fun w => by kernel_rfl, rfl⟩
instance : IntT Try.prog 22 .u64 := ⟨by kernel_rfl⟩
instance : Ag Try.prog 23 5 [.int .u64 (0), .int .u64 (0), .int .i64 (0), .int .i64 (0), .int .i64 (0)] := ⟨fun w => by kernel_rfl, fun w => by kernel_rfl, fun w => by kernel_rfl⟩
instance : Fld Try.prog 23 0 0 := ⟨fun a w => by kernel_rfl⟩
instance : Fld Try.prog 23 1 1 := ⟨fun a w => by kernel_rfl⟩
instance : Fld Try.prog 23 2 2 := ⟨fun a w => by kernel_rfl⟩
instance : Fld Try.prog 23 3 3 := ⟨fun a w => by kernel_rfl⟩
instance : Fld Try.prog 23 4 4 := ⟨fun a w => by kernel_rfl⟩
instance : Lay Try.prog 23 [(0, 1), (1, 1), (2, 1), (3, 1), (4, 1)] [.int .u64 (0), .int .u64 (0), .int .i64 (0), .int .i64 (0), .int .i64 (0)] := ⟨fun w => by kernel_rfl, _, Try.underlying23, fun w => by kernel_rfl⟩
instance : Ag Try.prog 24 5 [.int .u64 (0), .int .u64 (0), .int .i64 (0), .int .i64 (0), .int .i64 (0)] := ⟨fun w => by kernel_rfl, fun w => by kernel_rfl, fun w => by kernel_rfl⟩
instance : Fld Try.prog 24 0 0 := ⟨fun a w => by kernel_rfl⟩
instance : Fld Try.prog 24 1 1 := ⟨fun a w => by kernel_rfl⟩
instance : Fld Try.prog 24 2 2 := ⟨fun a w => by kernel_rfl⟩
instance : Fld Try.prog 24 3 3 := ⟨fun a w => by kernel_rfl⟩
instance : Fld Try.prog 24 4 4 := ⟨fun a w => by kernel_rfl⟩
instance : Lay Try.prog 24 [(0, 1), (1, 1), (2, 1), (3, 1), (4, 1)] [.int .u64 (0), .int .u64 (0), .int .i64 (0), .int .i64 (0), .int .i64 (0)] := ⟨fun w => by kernel_rfl, _, Try.underlying24, fun w => by kernel_rfl⟩
instance : Ag Try.prog 25 1 [.int .i64 (0)] := ⟨fun w => by kernel_rfl, fun w => by kernel_rfl, fun w => by kernel_rfl⟩
instance : Fld Try.prog 25 0 0 := ⟨fun a w => by kernel_rfl⟩
instance : Lay Try.prog 25 [(0, 1)] [.int .i64 (0)] := ⟨fun w => by kernel_rfl, _, Try.underlying25, fun w => by kernel_rfl⟩
instance : Ag Try.prog 26 1 [.int .i64 (0)] := ⟨fun w => by kernel_rfl, fun w => by kernel_rfl, fun w => by kernel_rfl⟩
instance : Fld Try.prog 26 0 0 := ⟨fun a w => by kernel_rfl⟩
instance : Lay Try.prog 26 [(0, 1)] [.int .i64 (0)] := ⟨fun w => by kernel_rfl, _, Try.underlying26, fun w => by kernel_rfl⟩
instance : Ag Try.prog 27 3 [.int .i64 (0), .int .i64 (0), .int .i64 (0)] := ⟨fun w => by kernel_rfl, fun w => by kernel_rfl, fun w => by kernel_rfl⟩
instance : Fld Try.prog 27 0 0 := ⟨fun a w => by kernel_rfl⟩
instance : Fld Try.prog 27 1 1 := ⟨fun a w => by kernel_rfl⟩
instance : Fld Try.prog 27 2 2 := ⟨fun a w => by kernel_rfl⟩
instance : Lay Try.prog 27 [(0, 1), (1, 1), (2, 1)] [.int .i64 (0), .int .i64 (0), .int .i64 (0)] := ⟨fun w => by kernel_rfl, _, Try.underlying27, fun w => by kernel_rfl⟩
instance : Ag Try.prog 28 3 [.int .i64 (0), .int .i64 (0), .int .i64 (0)] := ⟨fun w => by kernel_rfl, fun w => by kernel_rfl, fun w => by kernel_rfl⟩
instance : Fld Try.prog 28 0 0 := ⟨fun a w => by kernel_rfl⟩
instance : Fld Try.prog 28 1 1 := ⟨fun a w => by kernel_rfl⟩
instance : Fld Try.prog 28 2 2 := ⟨fun a w => by kernel_rfl⟩
instance : Lay Try.prog 28 [(0, 1), (1, 1), (2, 1)] [.int .i64 (0), .int .i64 (0), .int .i64 (0)] := ⟨fun w => by kernel_rfl, _, Try.underlying28, fun w => by kernel_rfl⟩
instance : Ag Try.prog 29 4 [.int .i64 (0), .int .i64 (0), .int .i64 (0), .int .u64 (0)] := ⟨fun w => by kernel_rfl, fun w => by kernel_rfl, fun w => by kernel_rfl⟩
instance : Fld Try.prog 29 0 0 := ⟨fun a w => by kernel_rfl⟩
instance : Fld Try.prog 29 1 3 := ⟨fun a w => by kernel_rfl⟩
instance : Lay Try.prog 29 [(0, 3), (3, 1)] [.int .i64 (0), .int .i64 (0), .int .i64 (0), .int .u64 (0)] := ⟨fun w => by kernel_rfl, _, Try.underlying29, fun w => by kernel_rfl⟩
instance : Ag Try.prog 30 4 [.int .i64 (0), .int .i64 (0), .int .i64 (0), .int .u64 (0)] := ⟨fun w => by kernel_rfl, fun w => by kernel_rfl, fun w => by kernel_rfl⟩
instance : Fld Try.prog 30 0 0 := ⟨fun a w => by kernel_rfl⟩
instance : Fld Try.prog 30 1 3 := ⟨fun a w => by kernel_rfl⟩
instance : Lay Try.prog 30 [(0, 3), (3, 1)] [.int .i64 (0), .int .i64 (0), .int .i64 (0), .int .u64 (0)] := ⟨fun w => by kernel_rfl, _, Try.underlying30, fun w => by kernel_rfl⟩
instance : Sc Try.prog 31 (.nilFunc) := ⟨fun w => by kernel_rfl, fun w => by kernel_rfl, fun w => by kernel_rfl, rfl⟩
instance : Sc Try.prog 32 (.nilFunc) := ⟨fun w => by kernel_rfl, fun w => by kernel_rfl, fun w => by kernel_rfl, rfl⟩
instance : Ag Try.prog 33 5 [.int .i64 (0), .int .i64 (0), .int .i64 (0), .int .i64 (0), .int .u64 (0)] := ⟨fun w => by kernel_rfl, fun w => by kernel_rfl, fun w => by kernel_rfl⟩
instance : Fld Try.prog 33 0 0 := ⟨fun a w => by kernel_rfl⟩
instance : Fld Try.prog 33 1 1 := ⟨fun a w => by kernel_rfl⟩
instance : Fld Try.prog 33 2 2 := ⟨fun a w => by kernel_rfl⟩
instance : Fld Try.prog 33 3 3 := ⟨fun a w => by kernel_rfl⟩
instance : Fld Try.prog 33 4 4 := ⟨fun a w => by kernel_rfl⟩
instance : Lay Try.prog 33 [(0, 1), (1, 1), (2, 1), (3, 1), (4, 1)] [.int .i64 (0), .int .i64 (0), .int .i64 (0), .int .i64 (0), .int .u64 (0)] := ⟨fun w => by kernel_rfl, _, Try.underlying33, fun w => by kernel_rfl⟩
instance : Ag Try.prog 34 5 [.int .i64 (0), .int .i64 (0), .int .i64 (0), .int .i64 (0), .int .u64 (0)] := ⟨fun w => by kernel_rfl, fun w => by kernel_rfl, fun w => by kernel_rfl⟩
instance : Fld Try.prog 34 0 0 := ⟨fun a w => by kernel_rfl⟩
instance : Fld Try.prog 34 1 1 := ⟨fun a w => by kernel_rfl⟩
instance : Fld Try.prog 34 2 2 := ⟨fun a w => by kernel_rfl⟩
instance : Fld Try.prog 34 3 3 := ⟨fun a w => by kernel_rfl⟩
instance : Fld Try.prog 34 4 4 := ⟨fun a w => by kernel_rfl⟩
instance : Lay Try.prog 34 [(0, 1), (1, 1), (2, 1), (3, 1), (4, 1)] [.int .i64 (0), .int .i64 (0), .int .i64 (0), .int .i64 (0), .int .u64 (0)] := ⟨fun w => by kernel_rfl, _, Try.underlying34, fun w => by kernel_rfl⟩
instance : Ag Try.prog 35 4 [.int .i64 (0), .int .i64 (0), .int .i64 (0), .bool false] := ⟨fun w => by kernel_rfl, fun w => by kernel_rfl, fun w => by kernel_rfl⟩
instance : Fld Try.prog 35 0 0 := ⟨fun a w => by kernel_rfl⟩
instance : Fld Try.prog 35 1 1 := ⟨fun a w => by kernel_rfl⟩
instance : Fld Try.prog 35 2 2 := ⟨fun a w => by kernel_rfl⟩
instance : Fld Try.prog 35 3 3 := ⟨fun a w => by kernel_rfl⟩
instance : Lay Try.prog 35 [(0, 1), (1, 1), (2, 1), (3, 1)] [.int .i64 (0), .int .i64 (0), .int .i64 (0), .bool false] := ⟨fun w => by kernel_rfl, _, Try.underlying35, fun w => by kernel_rfl⟩
instance : Ag Try.prog 36 4 [.int .i64 (0), .int .i64 (0), .int .i64 (0), .bool false] := ⟨fun w => by kernel_rfl, fun w => by kernel_rfl, fun w => by kernel_rfl⟩
instance : Fld Try.prog 36 0 0 := ⟨fun a w => by kernel_rfl⟩
instance : Fld Try.prog 36 1 1 := ⟨fun a w => by kernel_rfl⟩
instance : Fld Try.prog 36 2 2 := ⟨fun a w => by kernel_rfl⟩
instance : Fld Try.prog 36 3 3 := ⟨fun a w => by kernel_rfl⟩
instance : Lay Try.prog 36 [(0, 1), (1, 1), (2, 1), (3, 1)] [.int .i64 (0), .int .i64 (0), .int .i64 (0), .bool false] := ⟨fun w => by kernel_rfl, _, Try.underlying36, fun w => by kernel_rfl⟩
instance : Sc Try.prog 37 (.nilFunc) := ⟨fun w => by kernel_rfl, fun w => by kernel_rfl, fun w => by kernel_rfl, rfl⟩
instance : Sc Try.prog 39 (.nilFunc) := ⟨fun w => by kernel_rfl, fun w => by kernel_rfl, fun w => by kernel_rfl, rfl⟩
instance : Sc Try.prog 40 (.nilFunc) := ⟨fun w => by kernel_rfl, fun w => by kernel_rfl, fun w => by kernel_rfl, rfl⟩
instance : Ag Try.prog 41 5 [.int .i64 (0), .int .i64 (0), .int .i64 (0), .int .i64 (0), .int .i64 (0)] := ⟨fun w => by kernel_rfl, fun w => by kernel_rfl, fun w => by kernel_rfl⟩
instance : Fld Try.prog 41 0 0 := ⟨fun a w => by kernel_rfl⟩
instance : Fld Try.prog 41 1 1 := ⟨fun a w => by kernel_rfl⟩
instance : Fld Try.prog 41 2 2 := ⟨fun a w => by kernel_rfl⟩
instance : Fld Try.prog 41 3 3 := ⟨fun a w => by kernel_rfl⟩
instance : Fld Try.prog 41 4 4 := ⟨fun a w => by kernel_rfl⟩
instance : Lay Try.prog 41 [(0, 1), (1, 1), (2, 1), (3, 1), (4, 1)] [.int .i64 (0), .int .i64 (0), .int .i64 (0), .int .i64 (0), .int .i64 (0)] := ⟨fun w => by kernel_rfl, _, Try.underlying41, fun w => by kernel_rfl⟩
instance : Ag Try.prog 42 5 [.int .i64 (0), .int .i64 (0), .int .i64 (0), .int .i64 (0), .int .i64 (0)] := ⟨fun w => by kernel_rfl, fun w => by kernel_rfl, fun w => by kernel_rfl⟩
instance : Fld Try.prog 42 0 0 := ⟨fun a w => by kernel_rfl⟩
instance : Fld Try.prog 42 1 1 := ⟨fun a w => by kernel_rfl⟩
instance : Fld Try.prog 42 2 2 := ⟨fun a w => by kernel_rfl⟩
instance : Fld Try.prog 42 3 3 := ⟨fun a w => by kernel_rfl⟩
instance : Fld Try.prog 42 4 4 := ⟨fun a w => by kernel_rfl⟩
instance : Lay Try.prog 42 [(0, 1), (1, 1), (2, 1), (3, 1), (4, 1)] [.int .i64 (0), .int .i64 (0), .int .i64 (0), .int .i64 (0), .int .i64 (0)] := ⟨fun w => by kernel_rfl, _, Try.underlying42, fun w => by kernel_rfl⟩
instance : Sc Try.prog 43 (.slice none 0 0) := ⟨fun w => by kernel_rfl, fun w => by kernel_rfl, fun w => by kernel_rfl, rfl⟩
instance : Slc Try.prog 43 53 2 32 [.int .i64 (0), .slice none 0 0] := ⟨by kernel_rfl, fun w => by kernel_rfl, by kernel_rfl, rfl, by decide⟩
instance : Sc Try.prog 44 (.slice none 0 0) := ⟨fun w => by kernel_rfl, fun w => by kernel_rfl, fun w => by kernel_rfl, rfl⟩
instance : Slc Try.prog 44 24 5 40 [.int .u64 (0), .int .u64 (0), .int .i64 (0), .int .i64 (0), .int .i64 (0)] := ⟨by kernel_rfl, fun w => by kernel_rfl, by kernel_rfl, rfl, by decide⟩
instance : Sc Try.prog 45 (.nilFunc) := ⟨fun w => by kernel_rfl, fun w => by kernel_rfl, fun w => by kernel_rfl, rfl⟩
instance : Sc Try.prog 46 (.slice none 0 0) := ⟨fun w => by kernel_rfl, fun w => by kernel_rfl, fun w => by kernel_rfl, rfl⟩
instance : Slc Try.prog 46 42 5 40 [.int .i64 (0), .int .i64 (0), .int .i64 (0), .int .i64 (0), .int .i64 (0)] := ⟨by kernel_rfl, fun w => by kernel_rfl, by kernel_rfl, rfl, by decide⟩
instance : Ag Try.prog 47 2 [.int .i64 (0), .int .i64 (0)] := ⟨fun w => by kernel_rfl, fun w => by kernel_rfl, fun w => by kernel_rfl⟩
instance : Fld Try.prog 47 0 0 := ⟨fun a w => by kernel_rfl⟩
instance : Fld Try.prog 47 1 1 := ⟨fun a w => by kernel_rfl⟩
instance : Lay Try.prog 47 [(0, 1), (1, 1)] [.int .i64 (0), .int .i64 (0)] := ⟨fun w => by kernel_rfl, _, Try.underlying47, fun w => by kernel_rfl⟩
instance : Ag Try.prog 48 2 [.int .i64 (0), .int .i64 (0)] := ⟨fun w => by kernel_rfl, fun w => by kernel_rfl, fun w => by kernel_rfl⟩
instance : Fld Try.prog 48 0 0 := ⟨fun a w => by kernel_rfl⟩
instance : Fld Try.prog 48 1 1 := ⟨fun a w => by kernel_rfl⟩
instance : Lay Try.prog 48 [(0, 1), (1, 1)] [.int .i64 (0), .int .i64 (0)] := ⟨fun w => by kernel_rfl, _, Try.underlying48, fun w => by kernel_rfl⟩
instance : Ag Try.prog 49 3 [.int .u64 (0), .int .i64 (0), .int .i64 (0)] := ⟨fun w => by kernel_rfl, fun w => by kernel_rfl, fun w => by kernel_rfl⟩
instance : Fld Try.prog 49 0 0 := ⟨fun a w => by kernel_rfl⟩
instance : Fld Try.prog 49 1 1 := ⟨fun a w => by kernel_rfl⟩
instance : Lay Try.prog 49 [(0, 1), (1, 2)] [.int .u64 (0), .int .i64 (0), .int .i64 (0)] := ⟨fun w => by kernel_rfl, _, Try.underlying49, fun w => by kernel_rfl⟩
instance : Ag Try.prog 50 3 [.int .u64 (0), .int .i64 (0), .int .i64 (0)] := ⟨fun w => by kernel_rfl, fun w => by kernel_rfl, fun w => by kernel_rfl⟩
instance : Fld Try.prog 50 0 0 := ⟨fun a w => by kernel_rfl⟩
instance : Fld Try.prog 50 1 1 := ⟨fun a w => by kernel_rfl⟩
instance : Lay Try.prog 50 [(0, 1), (1, 2)] [.int .u64 (0), .int .i64 (0), .int .i64 (0)] := ⟨fun w => by kernel_rfl, _, Try.underlying50, fun w => by kernel_rfl⟩
instance : Sc Try.prog 51 (.slice none 0 0) := ⟨fun w => by kernel_rfl, fun w => by kernel_rfl, fun w => by kernel_rfl, rfl⟩
instance : Slc Try.prog 51 34 5 40 [.int .i64 (0), .int .i64 (0), .int .i64 (0), .int .i64 (0), .int .u64 (0)] := ⟨by kernel_rfl, fun w => by kernel_rfl, by kernel_rfl, rfl, by decide⟩
instance : Ag Try.prog 52 2 [.int .i64 (0), .slice none 0 0] := ⟨fun w => by kernel_rfl, fun w => by kernel_rfl, fun w => by kernel_rfl⟩
instance : Fld Try.prog 52 0 0 := ⟨fun a w => by kernel_rfl⟩
instance : Fld Try.prog 52 1 1 := ⟨fun a w => by kernel_rfl⟩
instance : Lay Try.prog 52 [(0, 1), (1, 1)] [.int .i64 (0), .slice none 0 0] := ⟨fun w => by kernel_rfl, _, Try.underlying52, fun w => by kernel_rfl⟩
instance : Ag Try.prog 53 2 [.int .i64 (0), .slice none 0 0] := ⟨fun w => by kernel_rfl, fun w => by kernel_rfl, fun w => by kernel_rfl⟩
instance : Fld Try.prog 53 0 0 := ⟨fun a w => by kernel_rfl⟩
instance : Fld Try.prog 53 1 1 := ⟨fun a w => by kernel_rfl⟩
instance : Lay Try.prog 53 [(0, 1), (1, 1)] [.int .i64 (0), .slice none 0 0] := ⟨fun w => by kernel_rfl, _, Try.underlying53, fun w => by kernel_rfl⟩
instance : Sc Try.prog 54 (.nilFunc) := ⟨fun w => by kernel_rfl, fun w => by kernel_rfl, fun w => by kernel_rfl, rfl⟩
instance : Sc Try.prog 56 (.nilFunc) := ⟨fun w => by kernel_rfl, fun w => by kernel_rfl, fun w => by kernel_rfl, rfl⟩
instance : Sc Try.prog 57 (.nilFunc) := ⟨fun w => by kernel_rfl, fun w => by kernel_rfl, fun w => by kernel_rfl, rfl⟩
instance : Sc Try.prog 58 (.nilFunc) := ⟨fun w => by kernel_rfl, fun w => by kernel_rfl, fun w => by kernel_rfl, rfl⟩
instance : Sc Try.prog 59 (.nilFunc) := ⟨fun w => by kernel_rfl, fun w => by kernel_rfl, fun w => by kernel_rfl, rfl⟩
instance : Sc Try.prog 60 (.slice none 0 0) := ⟨fun w => by kernel_rfl, fun w => by kernel_rfl, fun w => by kernel_rfl, rfl⟩
instance : Slc Try.prog 60 3 1 8 [.int .i64 (0)] := ⟨by kernel_rfl, fun w => by kernel_rfl, by kernel_rfl, rfl, by decide⟩
instance : Sc Try.prog 61 (.map none) := ⟨fun w => by kernel_rfl, fun w => by kernel_rfl, fun w => by kernel_rfl, rfl⟩
instance : Sc Try.prog 62 (.nilFunc) := ⟨fun w => by kernel_rfl, fun w => by kernel_rfl, fun w => by kernel_rfl, rfl⟩
instance : Sc Try.prog 63 (.nilFunc) := ⟨fun w => by kernel_rfl, fun w => by kernel_rfl, fun w => by kernel_rfl, rfl⟩
instance : Sc Try.prog 64 (.nilFunc) := ⟨fun w => by kernel_rfl, fun w => by kernel_rfl, fun w => by kernel_rfl, rfl⟩
instance : Sc Try.prog 65 (.nilFunc) := ⟨fun w => by kernel_rfl, fun w => by kernel_rfl, fun w => by kernel_rfl, rfl⟩
instance : Sc Try.prog 66 (.nilFunc) := ⟨fun w => by kernel_rfl, fun w => by kernel_rfl, fun w => by kernel_rfl, rfl⟩
instance : Sc Try.prog 67 (.pointer none) := ⟨fun w => by kernel_rfl, fun w => by kernel_rfl, fun w => by kernel_rfl, rfl⟩
instance : Sc Try.prog 68 (.nilFunc) := ⟨fun w => by kernel_rfl, fun w => by kernel_rfl, fun w => by kernel_rfl, rfl⟩
instance : Sc Try.prog 69 (.nilFunc) := ⟨fun w => by kernel_rfl, fun w => by kernel_rfl, fun w => by kernel_rfl, rfl⟩
instance : Sc Try.prog 70 (.nilFunc) := ⟨fun w => by kernel_rfl, fun w => by kernel_rfl, fun w => by kernel_rfl, rfl⟩
instance : Sc Try.prog 71 (.nilFunc) := ⟨fun w => by kernel_rfl, fun w => by kernel_rfl, fun w => by kernel_rfl, rfl⟩
instance : Sc Try.prog 72 (.nilFunc) := ⟨fun w => by kernel_rfl, fun w => by kernel_rfl, fun w => by kernel_rfl, rfl⟩
instance : Sc Try.prog 73 (.nilFunc) := ⟨fun w => by kernel_rfl, fun w => by kernel_rfl, fun w => by kernel_rfl, rfl⟩
instance : Sc Try.prog 74 (.nilFunc) := ⟨fun w => by kernel_rfl, fun w => by kernel_rfl, fun w => by kernel_rfl, rfl⟩
instance : Sc Try.prog 75 (.nilFunc) := ⟨fun w => by kernel_rfl, fun w => by kernel_rfl, fun w => by kernel_rfl, rfl⟩
instance : Sc Try.prog 76 (.nilFunc) := ⟨fun w => by kernel_rfl, fun w => by kernel_rfl, fun w => by kernel_rfl, rfl⟩
instance : Sc Try.prog 77 (.nilFunc) := ⟨fun w => by kernel_rfl, fun w => by kernel_rfl, fun w => by kernel_rfl, rfl⟩
instance : Sc Try.prog 78 (.pointer none) := ⟨fun w => by kernel_rfl, fun w => by kernel_rfl, fun w => by kernel_rfl, rfl⟩
instance : Sc Try.prog 79 (.nilFunc) := ⟨fun w => by kernel_rfl, fun w => by kernel_rfl, fun w => by kernel_rfl, rfl⟩
instance : Sc Try.prog 80 (.slice none 0 0) := ⟨fun w => by kernel_rfl, fun w => by kernel_rfl, fun w => by kernel_rfl, rfl⟩
instance : Slc Try.prog 80 22 1 8 [.int .u64 (0)] := ⟨by kernel_rfl, fun w => by kernel_rfl, by kernel_rfl, rfl, by decide⟩
instance : Sc Try.prog 81 (.int .u64 (0)) := ⟨fun w => by kernel_rfl, fun w => by kernel_rfl, fun w => by kernel_rfl, rfl⟩
instance : IntT Try.prog 81 .u64 := ⟨by kernel_rfl⟩
instance : Sc Try.prog 82 (.nilFunc) := ⟨fun w => by kernel_rfl, fun w => by kernel_rfl, fun w => by kernel_rfl, rfl⟩
instance : Sc Try.prog 83 (.pointer none) := ⟨fun w => by kernel_rfl, fun w => by kernel_rfl, fun w => by kernel_rfl, rfl⟩
instance : Sc Try.prog 84 (.nilFunc) := ⟨fun w => by kernel_rfl, fun w => by kernel_rfl, fun w => by kernel_rfl, rfl⟩
instance : Sc Try.prog 90 (.nilFunc) := ⟨fun w => by kernel_rfl, fun w => by kernel_rfl, fun w => by kernel_rfl, rfl⟩
instance : Sc Try.prog 91 (.int .u32 (0)) := ⟨fun w => by kernel_rfl, fun w => by kernel_rfl, fun w => by kernel_rfl, rfl⟩
instance : IntT Try.prog 91 .u32 := ⟨by kernel_rfl⟩
instance : Sc Try.prog 95 (.pointer none) := ⟨fun w => by kernel_rfl, fun w => by kernel_rfl, fun w => by kernel_rfl, rfl⟩
instance : Goes Try.prog 3 := ⟨_, Try.func3, by kernel_rfl, rfl⟩
instance : Goes Try.prog 4 := ⟨_, Try.func4, by kernel_rfl, rfl⟩
instance : Goes Try.prog 5 := ⟨_, Try.func5, by kernel_rfl, rfl⟩
instance : Goes Try.prog 6 := ⟨_, Try.func6, by kernel_rfl, rfl⟩
instance : Goes Try.prog 7 := ⟨_, Try.func7, by kernel_rfl, rfl⟩
instance : Goes Try.prog 8 := ⟨_, Try.func8, by kernel_rfl, rfl⟩
instance : Goes Try.prog 9 := ⟨_, Try.func9, by kernel_rfl, rfl⟩
instance : Goes Try.prog 10 := ⟨_, Try.func10, by kernel_rfl, rfl⟩
instance : Goes Try.prog 11 := ⟨_, Try.func11, by kernel_rfl, rfl⟩
instance : Goes Try.prog 12 := ⟨_, Try.func12, by kernel_rfl, rfl⟩
instance : Goes Try.prog 13 := ⟨_, Try.func13, by kernel_rfl, rfl⟩
instance : Goes Try.prog 14 := ⟨_, Try.func14, by kernel_rfl, rfl⟩
instance : Goes Try.prog 15 := ⟨_, Try.func15, by kernel_rfl, rfl⟩
instance : Goes Try.prog 16 := ⟨_, Try.func16, by kernel_rfl, rfl⟩
instance : Goes Try.prog 17 := ⟨_, Try.func17, by kernel_rfl, rfl⟩
instance : Goes Try.prog 18 := ⟨_, Try.func18, by kernel_rfl, rfl⟩
instance : Goes Try.prog 19 := ⟨_, Try.func19, by kernel_rfl, rfl⟩
instance : Goes Try.prog 20 := ⟨_, Try.func20, by kernel_rfl, rfl⟩
instance : Goes Try.prog 21 := ⟨_, Try.func21, by kernel_rfl, rfl⟩
instance : Goes Try.prog 22 := ⟨_, Try.func22, by kernel_rfl, rfl⟩
instance : Goes Try.prog 23 := ⟨_, Try.func23, by kernel_rfl, rfl⟩
instance : Goes Try.prog 24 := ⟨_, Try.func24, by kernel_rfl, rfl⟩
instance : Goes Try.prog 25 := ⟨_, Try.func25, by kernel_rfl, rfl⟩
instance : Goes Try.prog 26 := ⟨_, Try.func26, by kernel_rfl, rfl⟩
instance : Goes Try.prog 27 := ⟨_, Try.func27, by kernel_rfl, rfl⟩
instance : Goes Try.prog 28 := ⟨_, Try.func28, by kernel_rfl, rfl⟩
instance : Goes Try.prog 29 := ⟨_, Try.func29, by kernel_rfl, rfl⟩
instance : Goes Try.prog 30 := ⟨_, Try.func30, by kernel_rfl, rfl⟩
instance : Goes Try.prog 31 := ⟨_, Try.func31, by kernel_rfl, rfl⟩
instance : Goes Try.prog 32 := ⟨_, Try.func32, by kernel_rfl, rfl⟩
instance : Mixed Try.prog := ⟨by kernel_rfl⟩
end Go.Proofs.YtffhbdgoikkngaaS
