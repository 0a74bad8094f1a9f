/- Facts on the types and functions of this seat, a row each, written by a program (wip/sl/tygen.py). -/
import Derived.Test.YtdjijnpcpbjfoaaSg
import Derived.Test.YtdjijnpcpbjfoaaProg
import Derived.KernelRfl
namespace Go.Proofs.YtdjijnpcpbjfoaaS
set_option maxRecDepth 100000
instance : Sc Try.prog 1 (.nilFunc) := ⟨fun w => by kernel_rfl, fun w => by kernel_rfl, fun w => by kernel_rfl, rfl⟩
instance : Sc Try.prog 2 (.int .i64 (0)) := ⟨fun w => by kernel_rfl, fun w => by kernel_rfl, fun w => by kernel_rfl, rfl⟩
instance : IntT Try.prog 2 .i64 := ⟨by kernel_rfl⟩
instance : Sc Try.prog 3 (.int .i64 (0)) := ⟨fun w => by kernel_rfl, fun w => by kernel_rfl, fun w => by kernel_rfl, rfl⟩
instance : IntT Try.prog 3 .i64 := ⟨by kernel_rfl⟩
instance : Sc Try.prog 4 (.bool false) := ⟨fun w => by kernel_rfl, fun w => by kernel_rfl, fun w => by kernel_rfl, rfl⟩
instance : Sc Try.prog 5 (.int .u8 (0)) := ⟨fun w => by kernel_rfl, fun w => by kernel_rfl, fun w => by kernel_rfl, rfl⟩
instance : IntT Try.prog 5 .u8 := ⟨by kernel_rfl⟩
instance : Sc Try.prog 12 (.int .u64 (0)) := ⟨fun w => by kernel_rfl, fun w => by kernel_rfl, fun w => by kernel_rfl, rfl⟩
instance : IntT Try.prog 12 .u64 := ⟨by kernel_rfl⟩
instance : Ag Try.prog 13 2 [.string ByteArray.empty, .int .u64 (0)] := ⟨fun w => by kernel_rfl, fun w => by kernel_rfl, fun w => by kernel_rfl⟩
instance : Fld Try.prog 13 0 0 := ⟨fun a w => by kernel_rfl⟩
instance : Fld Try.prog 13 1 1 := ⟨fun a w => by kernel_rfl⟩
instance : Lay Try.prog 13 [(0, 1), (1, 1)] [.string ByteArray.empty, .int .u64 (0)] := ⟨fun w => by kernel_rfl, _, Try.underlying13, fun w => by kernel_rfl⟩
instance : Ag Try.prog 19 1 [.pointer none] := ⟨fun w => by kernel_rfl, fun w => by kernel_rfl, fun w => by kernel_rfl⟩
instance : Fld Try.prog 19 0 0 := ⟨fun a w => by kernel_rfl⟩
instance : Lay Try.prog 19 [(0, 1)] [.pointer none] := ⟨fun w => by kernel_rfl, _, Try.underlying19, fun w => by kernel_rfl⟩
instance : Sc Try.prog 20 (.nilIface) := ⟨fun w => by kernel_rfl, fun w => by kernel_rfl, fun w => by kernel_rfl, rfl⟩
instance : Sc Try.prog 21 (.int .i32 (0)) := ⟨fun w => by kernel_rfl, fun w => by kernel_rfl, fun w => by kernel_rfl, rfl⟩
instance : IntT Try.prog 21 .i32 := ⟨by kernel_rfl⟩
instance : Ag Try.prog 22 2 [.int .i64 (0), .int .i64 (0)] := ⟨fun w => by kernel_rfl, fun w => by kernel_rfl, fun w => by kernel_rfl⟩
instance : Fld Try.prog 22 0 0 := ⟨fun a w => by kernel_rfl⟩
instance : Fld Try.prog 22 1 1 := ⟨fun a w => by kernel_rfl⟩
instance : Lay Try.prog 22 [(0, 1), (1, 1)] [.int .i64 (0), .int .i64 (0)] := ⟨fun w => by kernel_rfl, _, Try.underlying22, fun w => by kernel_rfl⟩
instance : Ag Try.prog 23 2 [.int .i64 (0), .int .i64 (0)] := ⟨fun w => by kernel_rfl, fun w => by kernel_rfl, fun w => by kernel_rfl⟩
instance : Fld Try.prog 23 0 0 := ⟨fun a w => by kernel_rfl⟩
instance : Fld Try.prog 23 1 1 := ⟨fun a w => by kernel_rfl⟩
instance : Lay Try.prog 23 [(0, 1), (1, 1)] [.int .i64 (0), .int .i64 (0)] := ⟨fun w => by kernel_rfl, _, Try.underlying23, fun w => by kernel_rfl⟩
instance : Sc Try.prog 24 (.slice none 0 0) := ⟨fun w => by kernel_rfl, fun w => by kernel_rfl, fun w => by kernel_rfl, rfl⟩
instance : Slc Try.prog 24 23 2 16 [.int .i64 (0), .int .i64 (0)] := ⟨by kernel_rfl, fun w => by kernel_rfl, by kernel_rfl, rfl, by decide⟩
instance : Ag Try.prog 25 6 [.slice none 0 0, .int .i64 (0), .int .i64 (0), .int .i64 (0), .int .i64 (0), .int .i64 (0)] := ⟨fun w => by kernel_rfl, fun w => by kernel_rfl, fun w => by kernel_rfl⟩
instance : Fld Try.prog 25 0 0 := ⟨fun a w => by kernel_rfl⟩
instance : Fld Try.prog 25 1 1 := ⟨fun a w => by kernel_rfl⟩
instance : Fld Try.prog 25 2 2 := ⟨fun a w => by kernel_rfl⟩
instance : Fld Try.prog 25 3 3 := ⟨fun a w => by kernel_rfl⟩
instance : Fld Try.prog 25 4 4 := ⟨fun a w => by kernel_rfl⟩
instance : Fld Try.prog 25 5 5 := ⟨fun a w => by kernel_rfl⟩
instance : Lay Try.prog 25 [(0, 1), (1, 1), (2, 1), (3, 1), (4, 1), (5, 1)] [.slice none 0 0, .int .i64 (0), .int .i64 (0), .int .i64 (0), .int .i64 (0), .int .i64 (0)] := ⟨fun w => by kernel_rfl, _, Try.underlying25, fun w => by kernel_rfl⟩
instance : Ag Try.prog 26 6 [.slice none 0 0, .int .i64 (0), .int .i64 (0), .int .i64 (0), .int .i64 (0), .int .i64 (0)] := ⟨fun w => by kernel_rfl, fun w => by kernel_rfl, fun w => by kernel_rfl⟩
instance : Fld Try.prog 26 0 0 := ⟨fun a w => by kernel_rfl⟩
instance : Fld Try.prog 26 1 1 := ⟨fun a w => by kernel_rfl⟩
instance : Fld Try.prog 26 2 2 := ⟨fun a w => by kernel_rfl⟩
instance : Fld Try.prog 26 3 3 := ⟨fun a w => by kernel_rfl⟩
instance : Fld Try.prog 26 4 4 := ⟨fun a w => by kernel_rfl⟩
instance : Fld Try.prog 26 5 5 := ⟨fun a w => by kernel_rfl⟩
instance : Lay Try.prog 26 [(0, 1), (1, 1), (2, 1), (3, 1), (4, 1), (5, 1)] [.slice none 0 0, .int .i64 (0), .int .i64 (0), .int .i64 (0), .int .i64 (0), .int .i64 (0)] := ⟨fun w => by kernel_rfl, _, Try.underlying26, fun w => by kernel_rfl⟩
instance : Sc Try.prog 27 (.slice none 0 0) := ⟨fun w => by kernel_rfl, fun w => by kernel_rfl, fun w => by kernel_rfl, rfl⟩
instance : Slc Try.prog 27 5 1 1 [.int .u8 (0)] := ⟨by kernel_rfl, fun w => by kernel_rfl, by kernel_rfl, rfl, by decide⟩
instance : Sc Try.prog 28 (.nilFunc) := ⟨fun w => by kernel_rfl, fun w => by kernel_rfl, fun w => by kernel_rfl, rfl⟩
instance : Sc Try.prog 30 (.nilFunc) := ⟨fun w => by kernel_rfl, fun w => by kernel_rfl, fun w => by kernel_rfl, rfl⟩
instance : Sc Try.prog 31 (.nilFunc) := ⟨fun w => by kernel_rfl, fun w => by kernel_rfl, fun w => by kernel_rfl, rfl⟩
instance : Sc Try.prog 32 (.nilFunc) := ⟨fun w => by kernel_rfl, fun w => by kernel_rfl, fun w => by kernel_rfl, rfl⟩
instance : Sc Try.prog 33 (.nilFunc) := ⟨fun w => by kernel_rfl, fun w => by kernel_rfl, fun w => by kernel_rfl, rfl⟩
instance : Sc Try.prog 34 (.nilFunc) := ⟨fun w => by kernel_rfl, fun w => by kernel_rfl, fun w => by kernel_rfl, rfl⟩
instance : Sc Try.prog 35 (.nilFunc) := ⟨fun w => by kernel_rfl, fun w => by kernel_rfl, fun w => by kernel_rfl, rfl⟩
instance : Sc Try.prog 36 (.slice none 0 0) := ⟨fun w => by kernel_rfl, fun w => by kernel_rfl, fun w => by kernel_rfl, rfl⟩
instance : Slc Try.prog 36 3 1 8 [.int .i64 (0)] := ⟨by kernel_rfl, fun w => by kernel_rfl, by kernel_rfl, rfl, by decide⟩
instance : Ag Try.prog 37 7 [.slice none 0 0, .slice none 0 0, .int .i64 (0), .int .i64 (0), .int .i64 (0), .int .i64 (0), .int .i64 (0)] := ⟨fun w => by kernel_rfl, fun w => by kernel_rfl, fun w => by kernel_rfl⟩
instance : Fld Try.prog 37 0 0 := ⟨fun a w => by kernel_rfl⟩
instance : Fld Try.prog 37 1 1 := ⟨fun a w => by kernel_rfl⟩
instance : Fld Try.prog 37 2 2 := ⟨fun a w => by kernel_rfl⟩
instance : Fld Try.prog 37 3 3 := ⟨fun a w => by kernel_rfl⟩
instance : Fld Try.prog 37 4 4 := ⟨fun a w => by kernel_rfl⟩
instance : Fld Try.prog 37 5 5 := ⟨fun a w => by kernel_rfl⟩
instance : Fld Try.prog 37 6 6 := ⟨fun a w => by kernel_rfl⟩
instance : Lay Try.prog 37 [(0, 1), (1, 1), (2, 1), (3, 1), (4, 1), (5, 1), (6, 1)] [.slice none 0 0, .slice none 0 0, .int .i64 (0), .int .i64 (0), .int .i64 (0), .int .i64 (0), .int .i64 (0)] := ⟨fun w => by kernel_rfl, _, Try.underlying37, fun w => by kernel_rfl⟩
instance : Ag Try.prog 38 7 [.slice none 0 0, .slice none 0 0, .int .i64 (0), .int .i64 (0), .int .i64 (0), .int .i64 (0), .int .i64 (0)] := ⟨fun w => by kernel_rfl, fun w => by kernel_rfl, fun w => by kernel_rfl⟩
instance : Fld Try.prog 38 0 0 := ⟨fun a w => by kernel_rfl⟩
instance : Fld Try.prog 38 1 1 := ⟨fun a w => by kernel_rfl⟩
instance : Fld Try.prog 38 2 2 := ⟨fun a w => by kernel_rfl⟩
instance : Fld Try.prog 38 3 3 := ⟨fun a w => by kernel_rfl⟩
instance : Fld Try.prog 38 4 4 := ⟨fun a w => by kernel_rfl⟩
instance : Fld Try.prog 38 5 5 := ⟨fun a w => by kernel_rfl⟩
instance : Fld Try.prog 38 6 6 := ⟨fun a w => by kernel_rfl⟩
instance : Lay Try.prog 38 [(0, 1), (1, 1), (2, 1), (3, 1), (4, 1), (5, 1), (6, 1)] [.slice none 0 0, .slice none 0 0, .int .i64 (0), .int .i64 (0), .int .i64 (0), .int .i64 (0), .int .i64 (0)] := ⟨fun w => by kernel_rfl, _, Try.underlying38, fun w => by kernel_rfl⟩
instance : Sc Try.prog 39 (.nilFunc) := ⟨fun w => by kernel_rfl, fun w => by kernel_rfl, fun w => by kernel_rfl, rfl⟩
instance : Sc Try.prog 40 (.nilFunc) := ⟨fun w => by kernel_rfl, fun w => by kernel_rfl, fun w => by kernel_rfl, rfl⟩
instance : Sc Try.prog 41 (.nilFunc) := ⟨fun w => by kernel_rfl, fun w => by kernel_rfl, fun w => by kernel_rfl, rfl⟩
instance : Sc Try.prog 42 (.nilFunc) := ⟨fun w => by kernel_rfl, fun w => by kernel_rfl, fun w => by kernel_rfl, rfl⟩
instance : Sc Try.prog 43 (.nilFunc) := ⟨fun w => by kernel_rfl, fun w => by kernel_rfl, fun w => by kernel_rfl, rfl⟩
instance : Sc Try.prog 44 (.nilFunc) := ⟨fun w => by kernel_rfl, fun w => by kernel_rfl, fun w => by kernel_rfl, rfl⟩
instance : Sc Try.prog 45 (.nilFunc) := ⟨fun w => by kernel_rfl, fun w => by kernel_rfl, fun w => by kernel_rfl, rfl⟩
instance : Sc Try.prog 46 (.nilFunc) := ⟨fun w => by kernel_rfl, fun w => by kernel_rfl, fun w => by kernel_rfl, rfl⟩
instance : Sc Try.prog 47 (.nilFunc) := ⟨fun w => by kernel_rfl, fun w => by kernel_rfl, fun w => by kernel_rfl, rfl⟩
instance : Sc Try.prog 48 (.nilFunc) := ⟨fun w => by kernel_rfl, fun w => by kernel_rfl, fun w => by kernel_rfl, rfl⟩
instance : Sc Try.prog 49 (.nilFunc) := ⟨fun w => by kernel_rfl, fun w => by kernel_rfl, fun w => by kernel_rfl, rfl⟩
instance : Sc Try.prog 50 (.nilFunc) := ⟨fun w => by kernel_rfl, fun w => by kernel_rfl, fun w => by kernel_rfl, rfl⟩
instance : Sc Try.prog 52 (.nilFunc) := ⟨fun w => by kernel_rfl, fun w => by kernel_rfl, fun w => by kernel_rfl, rfl⟩
instance : Sc Try.prog 53 (.int .u64 (0)) := ⟨fun w => by kernel_rfl, fun w => by kernel_rfl, fun w => by kernel_rfl, rfl⟩
instance : IntT Try.prog 53 .u64 := ⟨by kernel_rfl⟩
instance : Sc Try.prog 54 (.nilFunc) := ⟨fun w => by kernel_rfl, fun w => by kernel_rfl, fun w => by kernel_rfl, rfl⟩
instance : Sc Try.prog 55 (.int .u64 (0)) := ⟨fun w => by kernel_rfl, fun w => by kernel_rfl, fun w => by kernel_rfl, rfl⟩
instance : IntT Try.prog 55 .u64 := ⟨by kernel_rfl⟩
instance : Sc Try.prog 56 (.slice none 0 0) := ⟨fun w => by kernel_rfl, fun w => by kernel_rfl, fun w => by kernel_rfl, rfl⟩
instance : Slc Try.prog 56 26 6 64 [.slice none 0 0, .int .i64 (0), .int .i64 (0), .int .i64 (0), .int .i64 (0), .int .i64 (0)] := ⟨by kernel_rfl, fun w => by kernel_rfl, by kernel_rfl, rfl, by decide⟩
instance : Sc Try.prog 57 (.nilFunc) := ⟨fun w => by kernel_rfl, fun w => by kernel_rfl, fun w => by kernel_rfl, rfl⟩
instance : Sc Try.prog 58 (.nilFunc) := ⟨fun w => by kernel_rfl, fun w => by kernel_rfl, fun w => by kernel_rfl, rfl⟩
instance : Sc Try.prog 59 (.nilFunc) := ⟨fun w => by kernel_rfl, fun w => by kernel_rfl, fun w => by kernel_rfl, rfl⟩
instance : Sc Try.prog 60 (.nilFunc) := ⟨fun w => by kernel_rfl, fun w => by kernel_rfl, fun w => by kernel_rfl, rfl⟩
instance : Sc Try.prog 61 (.nilFunc) := ⟨fun w => by kernel_rfl, fun w => by kernel_rfl, fun w => by kernel_rfl, rfl⟩
instance : Sc Try.prog 63 (.nilFunc) := ⟨fun w => by kernel_rfl, fun w => by kernel_rfl, fun w => by kernel_rfl, rfl⟩
instance : Sc Try.prog 64 (.nilFunc) := ⟨fun w => by kernel_rfl, fun w => by kernel_rfl, fun w => by kernel_rfl, rfl⟩
instance : Sc Try.prog 65 (.nilFunc) := ⟨fun w => by kernel_rfl, fun w => by kernel_rfl, fun w => by kernel_rfl, rfl⟩
instance : Sc Try.prog 71 (.nilFunc) := ⟨fun w => by kernel_rfl, fun w => by kernel_rfl, fun w => by kernel_rfl, rfl⟩
instance : Sc Try.prog 72 (.int .u32 (0)) := ⟨fun w => by kernel_rfl, fun w => by kernel_rfl, fun w => by kernel_rfl, rfl⟩
instance : IntT Try.prog 72 .u32 := ⟨by kernel_rfl⟩
instance : Sc Try.prog 76 (.pointer none) := ⟨fun w => by kernel_rfl, fun w => by kernel_rfl, fun w => by kernel_rfl, rfl⟩
instance : Goes Try.prog 3 := ⟨_, Try.func3, by kernel_rfl, rfl⟩
instance : Goes Try.prog 4 := ⟨_, Try.func4, by kernel_rfl, rfl⟩
instance : Goes Try.prog 5 := ⟨_, Try.func5, by kernel_rfl, rfl⟩
instance : Goes Try.prog 6 := ⟨_, Try.func6, by kernel_rfl, rfl⟩
instance : Goes Try.prog 7 := ⟨_, Try.func7, by kernel_rfl, rfl⟩
instance : Goes Try.prog 8 := ⟨_, Try.func8, by kernel_rfl, rfl⟩
instance : Goes Try.prog 9 := ⟨_, Try.func9, by kernel_rfl, rfl⟩
instance : Goes Try.prog 10 := ⟨_, Try.func10, by kernel_rfl, rfl⟩
instance : Goes Try.prog 11 := ⟨_, Try.func11, by kernel_rfl, rfl⟩
instance : Goes Try.prog 12 := ⟨_, Try.func12, by kernel_rfl, rfl⟩
instance : Goes Try.prog 13 := ⟨_, Try.func13, by kernel_rfl, rfl⟩
instance : Goes Try.prog 14 := ⟨_, Try.func14, by kernel_rfl, rfl⟩
instance : Goes Try.prog 15 := ⟨_, Try.func15, by kernel_rfl, rfl⟩
instance : Goes Try.prog 16 := ⟨_, Try.func16, by kernel_rfl, rfl⟩
instance : Goes Try.prog 17 := ⟨_, Try.func17, by kernel_rfl, rfl⟩
instance : Goes Try.prog 18 := ⟨_, Try.func18, by kernel_rfl, rfl⟩
instance : Goes Try.prog 19 := ⟨_, Try.func19, by kernel_rfl, rfl⟩
instance : Goes Try.prog 20 := ⟨_, Try.func20, by kernel_rfl, rfl⟩
instance : Goes Try.prog 21 := ⟨_, Try.func21, by kernel_rfl, rfl⟩
instance : Goes Try.prog 22 := ⟨_, Try.func22, by kernel_rfl, rfl⟩
instance : Goes Try.prog 23 := ⟨_, Try.func23, by kernel_rfl, rfl⟩
instance : Goes Try.prog 24 := ⟨_, Try.func24, by kernel_rfl, rfl⟩
instance : Goes Try.prog 25 := ⟨_, Try.func25, by kernel_rfl, rfl⟩
instance : Goes Try.prog 26 := ⟨_, Try.func26, by kernel_rfl, rfl⟩
instance : Goes Try.prog 27 := ⟨_, Try.func27, by kernel_rfl, rfl⟩
instance : Goes Try.prog 28 := ⟨_, Try.func28, by kernel_rfl, rfl⟩
instance : Goes Try.prog 29 := ⟨_, Try.func29, by kernel_rfl, rfl⟩
instance : Goes Try.prog 30 := ⟨_, Try.func30, by kernel_rfl, rfl⟩
instance : Goes Try.prog 31 := ⟨_, Try.func31, by kernel_rfl, rfl⟩
instance : Goes Try.prog 32 := ⟨_, Try.func32, by kernel_rfl, rfl⟩
instance : Goes Try.prog 33 := ⟨_, Try.func33, by kernel_rfl, rfl⟩
instance : Goes Try.prog 34 := ⟨_, Try.func34, by kernel_rfl, rfl⟩
instance : Goes Try.prog 35 := ⟨_, Try.func35, by kernel_rfl, rfl⟩
instance : Goes Try.prog 36 := ⟨_, Try.func36, by kernel_rfl, rfl⟩
instance : Mixed Try.prog := ⟨by kernel_rfl⟩
end Go.Proofs.YtdjijnpcpbjfoaaS
