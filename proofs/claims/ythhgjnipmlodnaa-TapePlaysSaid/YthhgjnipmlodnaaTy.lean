/- Facts on the types and functions of this seat, a row each, written by a program (wip/sl/tygen.py). -/
import Derived.Test.YthhgjnipmlodnaaSg
import Derived.Test.YthhgjnipmlodnaaProg
import Derived.KernelRfl
namespace Go.Proofs.YthhgjnipmlodnaaS
set_option maxRecDepth 100000
instance : Sc Try.prog 1 (.nilFunc) := ⟨fun w => by kernel_rfl, fun w => by kernel_rfl, fun w => by kernel_rfl, rfl⟩
instance : Sc Try.prog 2 (.int .i64 (0)) := ⟨fun w => by kernel_rfl, fun w => by kernel_rfl, fun w => by kernel_rfl, rfl⟩
instance : IntT Try.prog 2 .i64 := ⟨by kernel_rfl⟩
instance : Sc Try.prog 3 (.int .i64 (0)) := ⟨fun w => by kernel_rfl, fun w => by kernel_rfl, fun w => by kernel_rfl, rfl⟩
instance : IntT Try.prog 3 .i64 := ⟨by kernel_rfl⟩
instance : Sc Try.prog 4 (.bool false) := ⟨fun w => by kernel_rfl, fun w => by kernel_rfl, fun w => by kernel_rfl, rfl⟩
instance : Sc Try.prog 5 (.int .u8 (0)) := ⟨fun w => by kernel_rfl, fun w => by kernel_rfl, fun w => by kernel_rfl, rfl⟩
instance : IntT Try.prog 5 .u8 := ⟨by kernel_rfl⟩
instance : Sc Try.prog 12 (.int .u64 (0)) := ⟨fun w => by kernel_rfl, fun w => by kernel_rfl, fun w => by kernel_rfl, rfl⟩
instance : IntT Try.prog 12 .u64 := ⟨by kernel_rfl⟩
instance : Ag Try.prog 13 2 [.string ByteArray.empty, .int .u64 (0)] := ⟨fun w => by kernel_rfl, fun w => by kernel_rfl, fun w => by kernel_rfl⟩
instance : Fld Try.prog 13 0 0 := ⟨fun a w => by kernel_rfl⟩
instance : Fld Try.prog 13 1 1 := ⟨fun a w => by kernel_rfl⟩
instance : Lay Try.prog 13 [(0, 1), (1, 1)] [.string ByteArray.empty, .int .u64 (0)] := ⟨fun w => by kernel_rfl, _, Try.underlying13, fun w => by kernel_rfl⟩
instance : Ag Try.prog 19 1 [.pointer none] := ⟨fun w => by kernel_rfl, fun w => by kernel_rfl, fun w => by kernel_rfl⟩
instance : Fld Try.prog 19 0 0 := ⟨fun a w => by kernel_rfl⟩
instance : Lay Try.prog 19 [(0, 1)] [.pointer none] := ⟨fun w => by kernel_rfl, _, Try.underlying19, fun w => by kernel_rfl⟩
instance : Sc Try.prog 20 (.nilIface) := ⟨fun w => by kernel_rfl, fun w => by kernel_rfl, fun w => by kernel_rfl, rfl⟩
instance : Sc Try.prog 21 (.int .i32 (0)) := ⟨fun w => by kernel_rfl, fun w => by kernel_rfl, fun w => by kernel_rfl, rfl⟩
instance : IntT Try.prog 21 .i32 := ⟨by kernel_rfl⟩
instance : Sc Try.prog 22 (.slice none 0 0) := ⟨fun w => by kernel_rfl, fun w => by kernel_rfl, fun w => by kernel_rfl, rfl⟩
instance : Slc Try.prog 22 3 1 8 [.int .i64 (0)] := ⟨by kernel_rfl, fun w => by kernel_rfl, by kernel_rfl, rfl, by decide⟩
instance : Sc Try.prog 23 (.pointer none) := ⟨fun w => by kernel_rfl, fun w => by kernel_rfl, fun w => by kernel_rfl, rfl⟩
instance : Sc Try.prog 24 (.nilFunc) := ⟨fun w => by kernel_rfl, fun w => by kernel_rfl, fun w => by kernel_rfl, rfl⟩
instance : Sc Try.prog 25 (.int .i64 (0)) := ⟨fun w => by kernel_rfl, fun w => by kernel_rfl, fun w => by kernel_rfl, rfl⟩
instance : IntT Try.prog 25 .i64 := ⟨by kernel_rfl⟩
instance : Sc Try.prog 26 (.nilFunc) := ⟨fun w => by kernel_rfl, fun w => by kernel_rfl, fun w => by kernel_rfl, rfl⟩
instance : Sc Try.prog 27 (.slice none 0 0) := ⟨fun w => by kernel_rfl, fun w => by kernel_rfl, fun w => by kernel_rfl, rfl⟩
instance : Slc Try.prog 27 5 1 1 [.int .u8 (0)] := ⟨by kernel_rfl, fun w => by kernel_rfl, by kernel_rfl, rfl, by decide⟩
instance : Sc Try.prog 28 (.nilFunc) := ⟨fun w => by kernel_rfl, fun w => by kernel_rfl, fun w => by kernel_rfl, rfl⟩
instance : Sc Try.prog 29 (.nilFunc) := ⟨fun w => by kernel_rfl, fun w => by kernel_rfl, fun w => by kernel_rfl, rfl⟩
instance : Sc Try.prog 30 (.slice none 0 0) := ⟨fun w => by kernel_rfl, fun w => by kernel_rfl, fun w => by kernel_rfl, rfl⟩
instance : Slc Try.prog 30 27 1 24 [.slice none 0 0] := ⟨by kernel_rfl, fun w => by kernel_rfl, by kernel_rfl, rfl, by decide⟩
instance : Sc Try.prog 31 (.nilFunc) := ⟨fun w => by kernel_rfl, fun w => by kernel_rfl, fun w => by kernel_rfl, rfl⟩
instance : Sc Try.prog 32 (.nilFunc) := ⟨fun w => by kernel_rfl, fun w => by kernel_rfl, fun w => by kernel_rfl, rfl⟩
instance : Sc Try.prog 33 (.nilFunc) := ⟨fun w => by kernel_rfl, fun w => by kernel_rfl, fun w => by kernel_rfl, rfl⟩
instance : Sc Try.prog 34 (.nilFunc) := ⟨fun w => by kernel_rfl, fun w => by kernel_rfl, fun w => by kernel_rfl, rfl⟩
instance : Sc Try.prog 35 (.nilFunc) := ⟨fun w => by kernel_rfl, fun w => by kernel_rfl, fun w => by kernel_rfl, rfl⟩
instance : Sc Try.prog 36 (.nilFunc) := ⟨fun w => by kernel_rfl, fun w => by kernel_rfl, fun w => by kernel_rfl, rfl⟩
instance : Sc Try.prog 37 (.nilFunc) := ⟨fun w => by kernel_rfl, fun w => by kernel_rfl, fun w => by kernel_rfl, rfl⟩
instance : Sc Try.prog 38 (.nilFunc) := ⟨fun w => by kernel_rfl, fun w => by kernel_rfl, fun w => by kernel_rfl, rfl⟩
instance : Sc Try.prog 39 (.slice none 0 0) := ⟨fun w => by kernel_rfl, fun w => by kernel_rfl, fun w => by kernel_rfl, rfl⟩
instance : Slc Try.prog 39 41 3 40 [.int .i64 (0), .int .i64 (0), .slice none 0 0] := ⟨by kernel_rfl, fun w => by kernel_rfl, by kernel_rfl, rfl, by decide⟩
instance : Ag Try.prog 40 3 [.int .i64 (0), .int .i64 (0), .slice none 0 0] := ⟨fun w => by kernel_rfl, fun w => by kernel_rfl, fun w => by kernel_rfl⟩
instance : Fld Try.prog 40 0 0 := ⟨fun a w => by kernel_rfl⟩
instance : Fld Try.prog 40 1 1 := ⟨fun a w => by kernel_rfl⟩
instance : Fld Try.prog 40 2 2 := ⟨fun a w => by kernel_rfl⟩
instance : Lay Try.prog 40 [(0, 1), (1, 1), (2, 1)] [.int .i64 (0), .int .i64 (0), .slice none 0 0] := ⟨fun w => by kernel_rfl, _, Try.underlying40, fun w => by kernel_rfl⟩
instance : Ag Try.prog 41 3 [.int .i64 (0), .int .i64 (0), .slice none 0 0] := ⟨fun w => by kernel_rfl, fun w => by kernel_rfl, fun w => by kernel_rfl⟩
instance : Fld Try.prog 41 0 0 := ⟨fun a w => by kernel_rfl⟩
instance : Fld Try.prog 41 1 1 := ⟨fun a w => by kernel_rfl⟩
instance : Fld Try.prog 41 2 2 := ⟨fun a w => by kernel_rfl⟩
instance : Lay Try.prog 41 [(0, 1), (1, 1), (2, 1)] [.int .i64 (0), .int .i64 (0), .slice none 0 0] := ⟨fun w => by kernel_rfl, _, Try.underlying41, fun w => by kernel_rfl⟩
instance : Sc Try.prog 42 (.nilFunc) := ⟨fun w => by kernel_rfl, fun w => by kernel_rfl, fun w => by kernel_rfl, rfl⟩
instance : Ag Try.prog 43 5 [.slice none 0 0, .int .i64 (0), .bool false, .bool false, .int .i64 (0)] := ⟨fun w => by kernel_rfl, fun w => by kernel_rfl, fun w => by kernel_rfl⟩
instance : Fld Try.prog 43 0 0 := ⟨fun a w => by kernel_rfl⟩
instance : Fld Try.prog 43 1 1 := ⟨fun a w => by kernel_rfl⟩
instance : Fld Try.prog 43 2 2 := ⟨fun a w => by kernel_rfl⟩
instance : Fld Try.prog 43 3 3 := ⟨fun a w => by kernel_rfl⟩
instance : Fld Try.prog 43 4 4 := ⟨fun a w => by kernel_rfl⟩
instance : Lay Try.prog 43 [(0, 1), (1, 1), (2, 1), (3, 1), (4, 1)] [.slice none 0 0, .int .i64 (0), .bool false, .bool false, .int .i64 (0)] := ⟨fun w => by kernel_rfl, _, Try.underlying43, fun w => by kernel_rfl⟩
instance : Ag Try.prog 44 5 [.slice none 0 0, .int .i64 (0), .bool false, .bool false, .int .i64 (0)] := ⟨fun w => by kernel_rfl, fun w => by kernel_rfl, fun w => by kernel_rfl⟩
instance : Fld Try.prog 44 0 0 := ⟨fun a w => by kernel_rfl⟩
instance : Fld Try.prog 44 1 1 := ⟨fun a w => by kernel_rfl⟩
instance : Fld Try.prog 44 2 2 := ⟨fun a w => by kernel_rfl⟩
instance : Fld Try.prog 44 3 3 := ⟨fun a w => by kernel_rfl⟩
instance : Fld Try.prog 44 4 4 := ⟨fun a w => by kernel_rfl⟩
instance : Lay Try.prog 44 [(0, 1), (1, 1), (2, 1), (3, 1), (4, 1)] [.slice none 0 0, .int .i64 (0), .bool false, .bool false, .int .i64 (0)] := ⟨fun w => by kernel_rfl, _, Try.underlying44, fun w => by kernel_rfl⟩
instance : Sc Try.prog 45 (.nilFunc) := ⟨fun w => by kernel_rfl, fun w => by kernel_rfl, fun w => by kernel_rfl, rfl⟩
instance : Sc Try.prog 46 (.nilFunc) := ⟨fun w => by kernel_rfl, fun w => by kernel_rfl, fun w => by kernel_rfl, rfl⟩
instance : Sc Try.prog 47 (.nilFunc) := ⟨fun w => by kernel_rfl, fun w => by kernel_rfl, fun w => by kernel_rfl, rfl⟩
instance : Sc Try.prog 48 (.nilFunc) := ⟨fun w => by kernel_rfl, fun w => by kernel_rfl, fun w => by kernel_rfl, rfl⟩
instance : Sc Try.prog 54 (.int .u32 (0)) := ⟨fun w => by kernel_rfl, fun w => by kernel_rfl, fun w => by kernel_rfl, rfl⟩
instance : IntT Try.prog 54 .u32 := ⟨by kernel_rfl⟩
instance : Sc Try.prog 58 (.pointer none) := ⟨fun w => by kernel_rfl, fun w => by kernel_rfl, fun w => by kernel_rfl, rfl⟩
instance : Goes Try.prog 3 := ⟨_, Try.func3, by kernel_rfl, rfl⟩
instance : Goes Try.prog 4 := ⟨_, Try.func4, by kernel_rfl, rfl⟩
instance : Goes Try.prog 5 := ⟨_, Try.func5, by kernel_rfl, rfl⟩
instance : Goes Try.prog 6 := ⟨_, Try.func6, by kernel_rfl, rfl⟩
instance : Goes Try.prog 7 := ⟨_, Try.func7, by kernel_rfl, rfl⟩
instance : Goes Try.prog 8 := ⟨_, Try.func8, by kernel_rfl, rfl⟩
instance : Goes Try.prog 9 := ⟨_, Try.func9, by kernel_rfl, rfl⟩
instance : Goes Try.prog 10 := ⟨_, Try.func10, by kernel_rfl, rfl⟩
instance : Goes Try.prog 11 := ⟨_, Try.func11, by kernel_rfl, rfl⟩
instance : Goes Try.prog 12 := ⟨_, Try.func12, by kernel_rfl, rfl⟩
instance : Goes Try.prog 13 := ⟨_, Try.func13, by kernel_rfl, rfl⟩
instance : Goes Try.prog 14 := ⟨_, Try.func14, by kernel_rfl, rfl⟩
instance : Goes Try.prog 15 := ⟨_, Try.func15, by kernel_rfl, rfl⟩
instance : Goes Try.prog 16 := ⟨_, Try.func16, by kernel_rfl, rfl⟩
instance : Goes Try.prog 17 := ⟨_, Try.func17, by kernel_rfl, rfl⟩
instance : Goes Try.prog 18 := ⟨_, Try.func18, by kernel_rfl, rfl⟩
instance : Goes Try.prog 19 := ⟨_, Try.func19, by kernel_rfl, rfl⟩
instance : Goes Try.prog 20 := ⟨_, Try.func20, by kernel_rfl, rfl⟩
instance : Goes Try.prog 21 := ⟨_, Try.func21, by kernel_rfl, rfl⟩
instance : Goes Try.prog 22 := ⟨_, Try.func22, by kernel_rfl, rfl⟩
instance : Goes Try.prog 23 := ⟨_, Try.func23, by kernel_rfl, rfl⟩
instance : Mixed Try.prog := ⟨by kernel_rfl⟩
end Go.Proofs.YthhgjnipmlodnaaS
