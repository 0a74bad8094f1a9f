/- Facts on the types and functions of this seat, a row each, written by a program (wip/sl/tygen.py). -/
import Derived.Test.YtelholihncbfkaaSg
import Derived.Test.YtelholihncbfkaaProg
import Derived.KernelRfl
namespace Go.Proofs.YtelholihncbfkaaS
set_option maxRecDepth 100000
instance : Sc Try.prog 1 (.nilFunc) := ⟨fun w => by kernel_rfl, fun w => by kernel_rfl, fun w => by kernel_rfl, rfl⟩
instance : Sc Try.prog 2 (.int .i64 (0)) := ⟨fun w => by kernel_rfl, fun w => by kernel_rfl, fun w => by kernel_rfl, rfl⟩
instance : IntT Try.prog 2 .i64 := ⟨by kernel_rfl⟩
instance : Sc Try.prog 3 (.int .i64 (0)) := ⟨fun w => by kernel_rfl, fun w => by kernel_rfl, fun w => by kernel_rfl, rfl⟩
instance : IntT Try.prog 3 .i64 := ⟨by kernel_rfl⟩
instance : Sc Try.prog 4 (.bool false) := ⟨fun w => by kernel_rfl, fun w => by kernel_rfl, fun w => by kernel_rfl, rfl⟩
instance : Sc Try.prog 5 (.int .u8 (0)) := ⟨fun w => by kernel_rfl, fun w => by kernel_rfl, fun w => by kernel_rfl, rfl⟩
instance : IntT Try.prog 5 .u8 := ⟨by kernel_rfl⟩
instance : Sc Try.prog 12 (.int .u64 (0)) := ⟨fun w => by kernel_rfl, fun w => by kernel_rfl, fun w => by kernel_rfl, rfl⟩
instance : IntT Try.prog 12 .u64 := ⟨by kernel_rfl⟩
instance : Ag Try.prog 13 2 [.string ByteArray.empty, .int .u64 (0)] := ⟨fun w => by kernel_rfl, fun w => by kernel_rfl, fun w => by kernel_rfl⟩
instance : Fld Try.prog 13 0 0 := ⟨fun a w => by kernel_rfl⟩
instance : Fld Try.prog 13 1 1 := ⟨fun a w => by kernel_rfl⟩
instance : Lay Try.prog 13 [(0, 1), (1, 1)] [.string ByteArray.empty, .int .u64 (0)] := ⟨fun w => by kernel_rfl, _, Try.underlying13, fun w => by kernel_rfl⟩
instance : Ag Try.prog 19 1 [.pointer none] := ⟨fun w => by kernel_rfl, fun w => by kernel_rfl, fun w => by kernel_rfl⟩
instance : Fld Try.prog 19 0 0 := ⟨fun a w => by kernel_rfl⟩
instance : Lay Try.prog 19 [(0, 1)] [.pointer none] := ⟨fun w => by kernel_rfl, _, Try.underlying19, fun w => by kernel_rfl⟩
instance : Sc Try.prog 20 (.nilIface) := ⟨fun w => by kernel_rfl, fun w => by kernel_rfl, fun w => by kernel_rfl, rfl⟩
instance : Sc Try.prog 21 (.int .i32 (0)) := ⟨fun w => by kernel_rfl, fun w => by kernel_rfl, fun w => by kernel_rfl, rfl⟩
instance : IntT Try.prog 21 .i32 := ⟨by kernel_rfl⟩
instance : Sc Try.prog 22 (.int .u64 (0)) := ⟨fun w => by kernel_rfl, fun w => by kernel_rfl, fun w => by kernel_rfl, rfl⟩
instance : IntT Try.prog 22 .u64 := ⟨by kernel_rfl⟩
instance : Ag Try.prog 23 4 [.int .i64 (0), .int .i64 (0), .int .i64 (0), .int .u64 (0)] := ⟨fun w => by kernel_rfl, fun w => by kernel_rfl, fun w => by kernel_rfl⟩
instance : Fld Try.prog 23 0 0 := ⟨fun a w => by kernel_rfl⟩
instance : Fld Try.prog 23 1 1 := ⟨fun a w => by kernel_rfl⟩
instance : Fld Try.prog 23 2 2 := ⟨fun a w => by kernel_rfl⟩
instance : Fld Try.prog 23 3 3 := ⟨fun a w => by kernel_rfl⟩
instance : Lay Try.prog 23 [(0, 1), (1, 1), (2, 1), (3, 1)] [.int .i64 (0), .int .i64 (0), .int .i64 (0), .int .u64 (0)] := ⟨fun w => by kernel_rfl, _, Try.underlying23, fun w => by kernel_rfl⟩
instance : Ag Try.prog 24 4 [.int .i64 (0), .int .i64 (0), .int .i64 (0), .int .u64 (0)] := ⟨fun w => by kernel_rfl, fun w => by kernel_rfl, fun w => by kernel_rfl⟩
instance : Fld Try.prog 24 0 0 := ⟨fun a w => by kernel_rfl⟩
instance : Fld Try.prog 24 1 1 := ⟨fun a w => by kernel_rfl⟩
instance : Fld Try.prog 24 2 2 := ⟨fun a w => by kernel_rfl⟩
instance : Fld Try.prog 24 3 3 := ⟨fun a w => by kernel_rfl⟩
instance : Lay Try.prog 24 [(0, 1), (1, 1), (2, 1), (3, 1)] [.int .i64 (0), .int .i64 (0), .int .i64 (0), .int .u64 (0)] := ⟨fun w => by kernel_rfl, _, Try.underlying24, fun w => by kernel_rfl⟩
instance : Ag Try.prog 25 5 [.bool false, .int .i64 (0), .int .i64 (0), .int .i64 (0), .int .u64 (0)] := ⟨fun w => by kernel_rfl, fun w => by kernel_rfl, fun w => by kernel_rfl⟩
instance : Fld Try.prog 25 0 0 := ⟨fun a w => by kernel_rfl⟩
instance : Fld Try.prog 25 1 1 := ⟨fun a w => by kernel_rfl⟩
instance : Lay Try.prog 25 [(0, 1), (1, 4)] [.bool false, .int .i64 (0), .int .i64 (0), .int .i64 (0), .int .u64 (0)] := ⟨fun w => by kernel_rfl, _, Try.underlying25, fun w => by kernel_rfl⟩
instance : Ag Try.prog 26 5 [.bool false, .int .i64 (0), .int .i64 (0), .int .i64 (0), .int .u64 (0)] := ⟨fun w => by kernel_rfl, fun w => by kernel_rfl, fun w => by kernel_rfl⟩
instance : Fld Try.prog 26 0 0 := ⟨fun a w => by kernel_rfl⟩
instance : Fld Try.prog 26 1 1 := ⟨fun a w => by kernel_rfl⟩
instance : Lay Try.prog 26 [(0, 1), (1, 4)] [.bool false, .int .i64 (0), .int .i64 (0), .int .i64 (0), .int .u64 (0)] := ⟨fun w => by kernel_rfl, _, Try.underlying26, fun w => by kernel_rfl⟩
instance : Sc Try.prog 27 (.slice none 0 0) := ⟨fun w => by kernel_rfl, fun w => by kernel_rfl, fun w => by kernel_rfl, rfl⟩
instance : Slc Try.prog 27 69 2 16 [.int .i64 (0), .int .i64 (0)] := ⟨by kernel_rfl, fun w => by kernel_rfl, by kernel_rfl, rfl, by decide⟩
instance : Ag Try.prog 28 6 [.slice none 0 0, .int .i64 (0), .int .i64 (0), .int .i64 (0), .int .i64 (0), .int .i64 (0)] := ⟨fun w => by kernel_rfl, fun w => by kernel_rfl, fun w => by kernel_rfl⟩
instance : Fld Try.prog 28 0 0 := ⟨fun a w => by kernel_rfl⟩
instance : Fld Try.prog 28 1 1 := ⟨fun a w => by kernel_rfl⟩
instance : Fld Try.prog 28 2 2 := ⟨fun a w => by kernel_rfl⟩
instance : Fld Try.prog 28 3 3 := ⟨fun a w => by kernel_rfl⟩
instance : Fld Try.prog 28 4 4 := ⟨fun a w => by kernel_rfl⟩
instance : Fld Try.prog 28 5 5 := ⟨fun a w => by kernel_rfl⟩
instance : Lay Try.prog 28 [(0, 1), (1, 1), (2, 1), (3, 1), (4, 1), (5, 1)] [.slice none 0 0, .int .i64 (0), .int .i64 (0), .int .i64 (0), .int .i64 (0), .int .i64 (0)] := ⟨fun w => by kernel_rfl, _, Try.underlying28, fun w => by kernel_rfl⟩
instance : Ag Try.prog 29 6 [.slice none 0 0, .int .i64 (0), .int .i64 (0), .int .i64 (0), .int .i64 (0), .int .i64 (0)] := ⟨fun w => by kernel_rfl, fun w => by kernel_rfl, fun w => by kernel_rfl⟩
instance : Fld Try.prog 29 0 0 := ⟨fun a w => by kernel_rfl⟩
instance : Fld Try.prog 29 1 1 := ⟨fun a w => by kernel_rfl⟩
instance : Fld Try.prog 29 2 2 := ⟨fun a w => by kernel_rfl⟩
instance : Fld Try.prog 29 3 3 := ⟨fun a w => by kernel_rfl⟩
instance : Fld Try.prog 29 4 4 := ⟨fun a w => by kernel_rfl⟩
instance : Fld Try.prog 29 5 5 := ⟨fun a w => by kernel_rfl⟩
instance : Lay Try.prog 29 [(0, 1), (1, 1), (2, 1), (3, 1), (4, 1), (5, 1)] [.slice none 0 0, .int .i64 (0), .int .i64 (0), .int .i64 (0), .int .i64 (0), .int .i64 (0)] := ⟨fun w => by kernel_rfl, _, Try.underlying29, fun w => by kernel_rfl⟩
instance : Ag Try.prog 30 15 [.int .i64 (0), .int .i64 (0), .int .i64 (0), .int .i64 (0), .slice none 0 0, .int .i64 (0), .int .i64 (0), .int .i64 (0), .int .i64 (0), .int .i64 (0), .bool false, .int .i64 (0), .int .i64 (0), .int .i64 (0), .int .u64 (0)] := ⟨fun w => by kernel_rfl, fun w => by kernel_rfl, fun w => by kernel_rfl⟩
instance : Fld Try.prog 30 0 0 := ⟨fun a w => by kernel_rfl⟩
instance : Fld Try.prog 30 1 1 := ⟨fun a w => by kernel_rfl⟩
instance : Fld Try.prog 30 2 2 := ⟨fun a w => by kernel_rfl⟩
instance : Fld Try.prog 30 3 3 := ⟨fun a w => by kernel_rfl⟩
instance : Fld Try.prog 30 4 4 := ⟨fun a w => by kernel_rfl⟩
instance : Fld Try.prog 30 5 10 := ⟨fun a w => by kernel_rfl⟩
instance : Lay Try.prog 30 [(0, 1), (1, 1), (2, 1), (3, 1), (4, 6), (10, 5)] [.int .i64 (0), .int .i64 (0), .int .i64 (0), .int .i64 (0), .slice none 0 0, .int .i64 (0), .int .i64 (0), .int .i64 (0), .int .i64 (0), .int .i64 (0), .bool false, .int .i64 (0), .int .i64 (0), .int .i64 (0), .int .u64 (0)] := ⟨fun w => by kernel_rfl, _, Try.underlying30, fun w => by kernel_rfl⟩
instance : Ag Try.prog 31 15 [.int .i64 (0), .int .i64 (0), .int .i64 (0), .int .i64 (0), .slice none 0 0, .int .i64 (0), .int .i64 (0), .int .i64 (0), .int .i64 (0), .int .i64 (0), .bool false, .int .i64 (0), .int .i64 (0), .int .i64 (0), .int .u64 (0)] := ⟨fun w => by kernel_rfl, fun w => by kernel_rfl, fun w => by kernel_rfl⟩
instance : Fld Try.prog 31 0 0 := ⟨fun a w => by kernel_rfl⟩
instance : Fld Try.prog 31 1 1 := ⟨fun a w => by kernel_rfl⟩
instance : Fld Try.prog 31 2 2 := ⟨fun a w => by kernel_rfl⟩
instance : Fld Try.prog 31 3 3 := ⟨fun a w => by kernel_rfl⟩
instance : Fld Try.prog 31 4 4 := ⟨fun a w => by kernel_rfl⟩
instance : Fld Try.prog 31 5 10 := ⟨fun a w => by kernel_rfl⟩
instance : Lay Try.prog 31 [(0, 1), (1, 1), (2, 1), (3, 1), (4, 6), (10, 5)] [.int .i64 (0), .int .i64 (0), .int .i64 (0), .int .i64 (0), .slice none 0 0, .int .i64 (0), .int .i64 (0), .int .i64 (0), .int .i64 (0), .int .i64 (0), .bool false, .int .i64 (0), .int .i64 (0), .int .i64 (0), .int .u64 (0)] := ⟨fun w => by kernel_rfl, _, Try.underlying31, fun w => by kernel_rfl⟩
instance : Sc Try.prog 33 (.nilFunc) := ⟨fun w => by kernel_rfl, fun w => by kernel_rfl, fun w => by kernel_rfl, rfl⟩
instance : Sc Try.prog 34 (.slice none 0 0) := ⟨fun w => by kernel_rfl, fun w => by kernel_rfl, fun w => by kernel_rfl, rfl⟩
instance : Slc Try.prog 34 5 1 1 [.int .u8 (0)] := ⟨by kernel_rfl, fun w => by kernel_rfl, by kernel_rfl, rfl, by decide⟩
instance : Sc Try.prog 35 (.nilFunc) := ⟨fun w => by kernel_rfl, fun w => by kernel_rfl, fun w => by kernel_rfl, rfl⟩
instance : Sc Try.prog 36 (.nilFunc) := ⟨fun w => by kernel_rfl, fun w => by kernel_rfl, fun w => by kernel_rfl, rfl⟩
instance : Sc Try.prog 37 (.nilFunc) := ⟨fun w => by kernel_rfl, fun w => by kernel_rfl, fun w => by kernel_rfl, rfl⟩
instance : Sc Try.prog 38 (.nilFunc) := ⟨fun w => by kernel_rfl, fun w => by kernel_rfl, fun w => by kernel_rfl, rfl⟩
instance : Sc Try.prog 39 (.slice none 0 0) := ⟨fun w => by kernel_rfl, fun w => by kernel_rfl, fun w => by kernel_rfl, rfl⟩
instance : Slc Try.prog 39 3 1 8 [.int .i64 (0)] := ⟨by kernel_rfl, fun w => by kernel_rfl, by kernel_rfl, rfl, by decide⟩
instance : Ag Try.prog 40 7 [.slice none 0 0, .slice none 0 0, .int .i64 (0), .int .i64 (0), .int .i64 (0), .int .i64 (0), .int .i64 (0)] := ⟨fun w => by kernel_rfl, fun w => by kernel_rfl, fun w => by kernel_rfl⟩
instance : Fld Try.prog 40 0 0 := ⟨fun a w => by kernel_rfl⟩
instance : Fld Try.prog 40 1 1 := ⟨fun a w => by kernel_rfl⟩
instance : Fld Try.prog 40 2 2 := ⟨fun a w => by kernel_rfl⟩
instance : Fld Try.prog 40 3 3 := ⟨fun a w => by kernel_rfl⟩
instance : Fld Try.prog 40 4 4 := ⟨fun a w => by kernel_rfl⟩
instance : Fld Try.prog 40 5 5 := ⟨fun a w => by kernel_rfl⟩
instance : Fld Try.prog 40 6 6 := ⟨fun a w => by kernel_rfl⟩
instance : Lay Try.prog 40 [(0, 1), (1, 1), (2, 1), (3, 1), (4, 1), (5, 1), (6, 1)] [.slice none 0 0, .slice none 0 0, .int .i64 (0), .int .i64 (0), .int .i64 (0), .int .i64 (0), .int .i64 (0)] := ⟨fun w => by kernel_rfl, _, Try.underlying40, fun w => by kernel_rfl⟩
instance : Ag Try.prog 41 7 [.slice none 0 0, .slice none 0 0, .int .i64 (0), .int .i64 (0), .int .i64 (0), .int .i64 (0), .int .i64 (0)] := ⟨fun w => by kernel_rfl, fun w => by kernel_rfl, fun w => by kernel_rfl⟩
instance : Fld Try.prog 41 0 0 := ⟨fun a w => by kernel_rfl⟩
instance : Fld Try.prog 41 1 1 := ⟨fun a w => by kernel_rfl⟩
instance : Fld Try.prog 41 2 2 := ⟨fun a w => by kernel_rfl⟩
instance : Fld Try.prog 41 3 3 := ⟨fun a w => by kernel_rfl⟩
instance : Fld Try.prog 41 4 4 := ⟨fun a w => by kernel_rfl⟩
instance : Fld Try.prog 41 5 5 := ⟨fun a w => by kernel_rfl⟩
instance : Fld Try.prog 41 6 6 := ⟨fun a w => by kernel_rfl⟩
instance : Lay Try.prog 41 [(0, 1), (1, 1), (2, 1), (3, 1), (4, 1), (5, 1), (6, 1)] [.slice none 0 0, .slice none 0 0, .int .i64 (0), .int .i64 (0), .int .i64 (0), .int .i64 (0), .int .i64 (0)] := ⟨fun w => by kernel_rfl, _, Try.underlying41, fun w => by kernel_rfl⟩
instance : Ag Try.prog 42 4 [.int .i64 (0), .int .i64 (0), .int .i64 (0), .int .i64 (0)] := ⟨fun w => by kernel_rfl, fun w => by kernel_rfl, fun w => by kernel_rfl⟩
instance : Fld Try.prog 42 0 0 := ⟨fun a w => by kernel_rfl⟩
instance : Fld Try.prog 42 1 1 := ⟨fun a w => by kernel_rfl⟩
instance : Fld Try.prog 42 2 2 := ⟨fun a w => by kernel_rfl⟩
instance : Fld Try.prog 42 3 3 := ⟨fun a w => by kernel_rfl⟩
instance : Lay Try.prog 42 [(0, 1), (1, 1), (2, 1), (3, 1)] [.int .i64 (0), .int .i64 (0), .int .i64 (0), .int .i64 (0)] := ⟨fun w => by kernel_rfl, _, Try.underlying42, fun w => by kernel_rfl⟩
instance : Ag Try.prog 43 4 [.int .i64 (0), .int .i64 (0), .int .i64 (0), .int .i64 (0)] := ⟨fun w => by kernel_rfl, fun w => by kernel_rfl, fun w => by kernel_rfl⟩
instance : Fld Try.prog 43 0 0 := ⟨fun a w => by kernel_rfl⟩
instance : Fld Try.prog 43 1 1 := ⟨fun a w => by kernel_rfl⟩
instance : Fld Try.prog 43 2 2 := ⟨fun a w => by kernel_rfl⟩
instance : Fld Try.prog 43 3 3 := ⟨fun a w => by kernel_rfl⟩
instance : Lay Try.prog 43 [(0, 1), (1, 1), (2, 1), (3, 1)] [.int .i64 (0), .int .i64 (0), .int .i64 (0), .int .i64 (0)] := ⟨fun w => by kernel_rfl, _, Try.underlying43, fun w => by kernel_rfl⟩
instance : Sc Try.prog 44 (.nilFunc) := ⟨fun w => by kernel_rfl, fun w => by kernel_rfl, fun w => by kernel_rfl, rfl⟩
instance : Sc Try.prog 45 (.slice none 0 0) := ⟨fun w => by kernel_rfl, fun w => by kernel_rfl, fun w => by kernel_rfl, rfl⟩
instance : Slc Try.prog 45 26 5 40 [.bool false, .int .i64 (0), .int .i64 (0), .int .i64 (0), .int .u64 (0)] := ⟨by kernel_rfl, fun w => by kernel_rfl, by kernel_rfl, rfl, by decide⟩
instance : Sc Try.prog 46 (.nilFunc) := ⟨fun w => by kernel_rfl, fun w => by kernel_rfl, fun w => by kernel_rfl, rfl⟩
instance : Sc Try.prog 47 (.slice none 0 0) := ⟨fun w => by kernel_rfl, fun w => by kernel_rfl, fun w => by kernel_rfl, rfl⟩
instance : Slc Try.prog 47 43 4 32 [.int .i64 (0), .int .i64 (0), .int .i64 (0), .int .i64 (0)] := ⟨by kernel_rfl, fun w => by kernel_rfl, by kernel_rfl, rfl, by decide⟩
instance : Sc Try.prog 48 (.nilFunc) := ⟨fun w => by kernel_rfl, fun w => by kernel_rfl, fun w => by kernel_rfl, rfl⟩
instance : Sc Try.prog 49 (.slice none 0 0) := ⟨fun w => by kernel_rfl, fun w => by kernel_rfl, fun w => by kernel_rfl, rfl⟩
instance : Slc Try.prog 49 31 15 136 [.int .i64 (0), .int .i64 (0), .int .i64 (0), .int .i64 (0), .slice none 0 0, .int .i64 (0), .int .i64 (0), .int .i64 (0), .int .i64 (0), .int .i64 (0), .bool false, .int .i64 (0), .int .i64 (0), .int .i64 (0), .int .u64 (0)] := ⟨by kernel_rfl, fun w => by kernel_rfl, by kernel_rfl, rfl, by decide⟩
instance : Sc Try.prog 50 (.nilFunc) := ⟨fun w => by kernel_rfl, fun w => by kernel_rfl, fun w => by kernel_rfl, rfl⟩
instance : Ag Try.prog 51 15 [.int .i64 (0), .int .i64 (0), .int .i64 (0), .int .i64 (0), .slice none 0 0, .slice none 0 0, .int .i64 (0), .int .i64 (0), .int .i64 (0), .int .i64 (0), .int .i64 (0), .int .i64 (0), .int .i64 (0), .int .i64 (0), .int .i64 (0)] := ⟨fun w => by kernel_rfl, fun w => by kernel_rfl, fun w => by kernel_rfl⟩
instance : Fld Try.prog 51 0 0 := ⟨fun a w => by kernel_rfl⟩
instance : Fld Try.prog 51 1 1 := ⟨fun a w => by kernel_rfl⟩
instance : Fld Try.prog 51 2 2 := ⟨fun a w => by kernel_rfl⟩
instance : Fld Try.prog 51 3 3 := ⟨fun a w => by kernel_rfl⟩
instance : Fld Try.prog 51 4 4 := ⟨fun a w => by kernel_rfl⟩
instance : Fld Try.prog 51 5 11 := ⟨fun a w => by kernel_rfl⟩
instance : Lay Try.prog 51 [(0, 1), (1, 1), (2, 1), (3, 1), (4, 7), (11, 4)] [.int .i64 (0), .int .i64 (0), .int .i64 (0), .int .i64 (0), .slice none 0 0, .slice none 0 0, .int .i64 (0), .int .i64 (0), .int .i64 (0), .int .i64 (0), .int .i64 (0), .int .i64 (0), .int .i64 (0), .int .i64 (0), .int .i64 (0)] := ⟨fun w => by kernel_rfl, _, Try.underlying51, fun w => by kernel_rfl⟩
instance : Ag Try.prog 52 15 [.int .i64 (0), .int .i64 (0), .int .i64 (0), .int .i64 (0), .slice none 0 0, .slice none 0 0, .int .i64 (0), .int .i64 (0), .int .i64 (0), .int .i64 (0), .int .i64 (0), .int .i64 (0), .int .i64 (0), .int .i64 (0), .int .i64 (0)] := ⟨fun w => by kernel_rfl, fun w => by kernel_rfl, fun w => by kernel_rfl⟩
instance : Fld Try.prog 52 0 0 := ⟨fun a w => by kernel_rfl⟩
instance : Fld Try.prog 52 1 1 := ⟨fun a w => by kernel_rfl⟩
instance : Fld Try.prog 52 2 2 := ⟨fun a w => by kernel_rfl⟩
instance : Fld Try.prog 52 3 3 := ⟨fun a w => by kernel_rfl⟩
instance : Fld Try.prog 52 4 4 := ⟨fun a w => by kernel_rfl⟩
instance : Fld Try.prog 52 5 11 := ⟨fun a w => by kernel_rfl⟩
instance : Lay Try.prog 52 [(0, 1), (1, 1), (2, 1), (3, 1), (4, 7), (11, 4)] [.int .i64 (0), .int .i64 (0), .int .i64 (0), .int .i64 (0), .slice none 0 0, .slice none 0 0, .int .i64 (0), .int .i64 (0), .int .i64 (0), .int .i64 (0), .int .i64 (0), .int .i64 (0), .int .i64 (0), .int .i64 (0), .int .i64 (0)] := ⟨fun w => by kernel_rfl, _, Try.underlying52, fun w => by kernel_rfl⟩
instance : Sc Try.prog 53 (.nilFunc) := ⟨fun w => by kernel_rfl, fun w => by kernel_rfl, fun w => by kernel_rfl, rfl⟩
instance : Sc Try.prog 54 (.slice none 0 0) := ⟨fun w => by kernel_rfl, fun w => by kernel_rfl, fun w => by kernel_rfl, rfl⟩
instance : Slc Try.prog 54 52 15 152 [.int .i64 (0), .int .i64 (0), .int .i64 (0), .int .i64 (0), .slice none 0 0, .slice none 0 0, .int .i64 (0), .int .i64 (0), .int .i64 (0), .int .i64 (0), .int .i64 (0), .int .i64 (0), .int .i64 (0), .int .i64 (0), .int .i64 (0)] := ⟨by kernel_rfl, fun w => by kernel_rfl, by kernel_rfl, rfl, by decide⟩
instance : Sc Try.prog 55 (.nilFunc) := ⟨fun w => by kernel_rfl, fun w => by kernel_rfl, fun w => by kernel_rfl, rfl⟩
instance : Sc Try.prog 56 (.nilFunc) := ⟨fun w => by kernel_rfl, fun w => by kernel_rfl, fun w => by kernel_rfl, rfl⟩
instance : Sc Try.prog 57 (.nilFunc) := ⟨fun w => by kernel_rfl, fun w => by kernel_rfl, fun w => by kernel_rfl, rfl⟩
instance : Sc Try.prog 58 (.nilFunc) := ⟨fun w => by kernel_rfl, fun w => by kernel_rfl, fun w => by kernel_rfl, rfl⟩
instance : Sc Try.prog 59 (.nilFunc) := ⟨fun w => by kernel_rfl, fun w => by kernel_rfl, fun w => by kernel_rfl, rfl⟩
instance : Sc Try.prog 60 (.nilFunc) := ⟨fun w => by kernel_rfl, fun w => by kernel_rfl, fun w => by kernel_rfl, rfl⟩
instance : Sc Try.prog 61 (.nilFunc) := ⟨fun w => by kernel_rfl, fun w => by kernel_rfl, fun w => by kernel_rfl, rfl⟩
instance : Sc Try.prog 62 (.nilFunc) := ⟨fun w => by kernel_rfl, fun w => by kernel_rfl, fun w => by kernel_rfl, rfl⟩
instance : Sc Try.prog 63 (.nilFunc) := ⟨fun w => by kernel_rfl, fun w => by kernel_rfl, fun w => by kernel_rfl, rfl⟩
instance : Sc Try.prog 64 (.nilFunc) := ⟨fun w => by kernel_rfl, fun w => by kernel_rfl, fun w => by kernel_rfl, rfl⟩
instance : Sc Try.prog 65 (.nilFunc) := ⟨fun w => by kernel_rfl, fun w => by kernel_rfl, fun w => by kernel_rfl, rfl⟩
instance : Sc Try.prog 66 (.nilFunc) := ⟨fun w => by kernel_rfl, fun w => by kernel_rfl, fun w => by kernel_rfl, rfl⟩
instance : Sc Try.prog 67 (.nilFunc) := ⟨fun w => by kernel_rfl, fun w => by kernel_rfl, fun w => by kernel_rfl, rfl⟩
instance : Ag Try.prog 68 2 [.int .i64 (0), .int .i64 (0)] := ⟨fun w => by kernel_rfl, fun w => by kernel_rfl, fun w => by kernel_rfl⟩
instance : Fld Try.prog 68 0 0 := ⟨fun a w => by kernel_rfl⟩
instance : Fld Try.prog 68 1 1 := ⟨fun a w => by kernel_rfl⟩
instance : Lay Try.prog 68 [(0, 1), (1, 1)] [.int .i64 (0), .int .i64 (0)] := ⟨fun w => by kernel_rfl, _, Try.underlying68, fun w => by kernel_rfl⟩
instance : Ag Try.prog 69 2 [.int .i64 (0), .int .i64 (0)] := ⟨fun w => by kernel_rfl, fun w => by kernel_rfl, fun w => by kernel_rfl⟩
instance : Fld Try.prog 69 0 0 := ⟨fun a w => by kernel_rfl⟩
instance : Fld Try.prog 69 1 1 := ⟨fun a w => by kernel_rfl⟩
instance : Lay Try.prog 69 [(0, 1), (1, 1)] [.int .i64 (0), .int .i64 (0)] := ⟨fun w => by kernel_rfl, _, Try.underlying69, fun w => by kernel_rfl⟩
instance : Sc Try.prog 70 (.nilFunc) := ⟨fun w => by kernel_rfl, fun w => by kernel_rfl, fun w => by kernel_rfl, rfl⟩
instance : Sc Try.prog 71 (.nilFunc) := ⟨fun w => by kernel_rfl, fun w => by kernel_rfl, fun w => by kernel_rfl, rfl⟩
instance : Sc Try.prog 72 (.nilFunc) := ⟨fun w => by kernel_rfl, fun w => by kernel_rfl, fun w => by kernel_rfl, rfl⟩
instance : Sc Try.prog 73 (.nilFunc) := ⟨fun w => by kernel_rfl, fun w => by kernel_rfl, fun w => by kernel_rfl, rfl⟩
instance : Sc Try.prog 74 (.nilFunc) := ⟨fun w => by kernel_rfl, fun w => by kernel_rfl, fun w => by kernel_rfl, rfl⟩
instance : Sc Try.prog 76 (.nilFunc) := ⟨fun w => by kernel_rfl, fun w => by kernel_rfl, fun w => by kernel_rfl, rfl⟩
instance : Sc Try.prog 78 (.nilFunc) := ⟨fun w => by kernel_rfl, fun w => by kernel_rfl, fun w => by kernel_rfl, rfl⟩
instance : Sc Try.prog 80 (.nilFunc) := ⟨fun w => by kernel_rfl, fun w => by kernel_rfl, fun w => by kernel_rfl, rfl⟩
instance : Sc Try.prog 81 (.nilFunc) := ⟨fun w => by kernel_rfl, fun w => by kernel_rfl, fun w => by kernel_rfl, rfl⟩
instance : Sc Try.prog 82 (.int .u64 (0)) := ⟨fun w => by kernel_rfl, fun w => by kernel_rfl, fun w => by kernel_rfl, rfl⟩
instance : IntT Try.prog 82 .u64 := ⟨by kernel_rfl⟩
instance : Sc Try.prog 83 (.nilFunc) := ⟨fun w => by kernel_rfl, fun w => by kernel_rfl, fun w => by kernel_rfl, rfl⟩
instance : Sc Try.prog 84 (.nilFunc) := ⟨fun w => by kernel_rfl, fun w => by kernel_rfl, fun w => by kernel_rfl, rfl⟩
instance : Sc Try.prog 85 (.nilFunc) := ⟨fun w => by kernel_rfl, fun w => by kernel_rfl, fun w => by kernel_rfl, rfl⟩
instance : Sc Try.prog 86 (.nilFunc) := ⟨fun w => by kernel_rfl, fun w => by kernel_rfl, fun w => by kernel_rfl, rfl⟩
instance : Sc Try.prog 92 (.nilFunc) := ⟨fun w => by kernel_rfl, fun w => by kernel_rfl, fun w => by kernel_rfl, rfl⟩
instance : Sc Try.prog 93 (.int .u32 (0)) := ⟨fun w => by kernel_rfl, fun w => by kernel_rfl, fun w => by kernel_rfl, rfl⟩
instance : IntT Try.prog 93 .u32 := ⟨by kernel_rfl⟩
instance : Sc Try.prog 97 (.pointer none) := ⟨fun w => by kernel_rfl, fun w => by kernel_rfl, fun w => by kernel_rfl, rfl⟩
instance : Goes Try.prog 3 := ⟨_, Try.func3, by kernel_rfl, rfl⟩
instance : Goes Try.prog 4 := ⟨_, Try.func4, by kernel_rfl, rfl⟩
instance : Goes Try.prog 5 := ⟨_, Try.func5, by kernel_rfl, rfl⟩
instance : Goes Try.prog 6 := ⟨_, Try.func6, by kernel_rfl, rfl⟩
instance : Goes Try.prog 7 := ⟨_, Try.func7, by kernel_rfl, rfl⟩
instance : Goes Try.prog 8 := ⟨_, Try.func8, by kernel_rfl, rfl⟩
instance : Goes Try.prog 9 := ⟨_, Try.func9, by kernel_rfl, rfl⟩
instance : Goes Try.prog 10 := ⟨_, Try.func10, by kernel_rfl, rfl⟩
instance : Goes Try.prog 11 := ⟨_, Try.func11, by kernel_rfl, rfl⟩
instance : Goes Try.prog 12 := ⟨_, Try.func12, by kernel_rfl, rfl⟩
instance : Goes Try.prog 13 := ⟨_, Try.func13, by kernel_rfl, rfl⟩
instance : Goes Try.prog 14 := ⟨_, Try.func14, by kernel_rfl, rfl⟩
instance : Goes Try.prog 15 := ⟨_, Try.func15, by kernel_rfl, rfl⟩
instance : Goes Try.prog 16 := ⟨_, Try.func16, by kernel_rfl, rfl⟩
instance : Goes Try.prog 17 := ⟨_, Try.func17, by kernel_rfl, rfl⟩
instance : Goes Try.prog 18 := ⟨_, Try.func18, by kernel_rfl, rfl⟩
instance : Goes Try.prog 19 := ⟨_, Try.func19, by kernel_rfl, rfl⟩
instance : Goes Try.prog 20 := ⟨_, Try.func20, by kernel_rfl, rfl⟩
instance : Goes Try.prog 21 := ⟨_, Try.func21, by kernel_rfl, rfl⟩
instance : Goes Try.prog 22 := ⟨_, Try.func22, by kernel_rfl, rfl⟩
instance : Goes Try.prog 23 := ⟨_, Try.func23, by kernel_rfl, rfl⟩
instance : Goes Try.prog 24 := ⟨_, Try.func24, by kernel_rfl, rfl⟩
instance : Goes Try.prog 25 := ⟨_, Try.func25, by kernel_rfl, rfl⟩
instance : Goes Try.prog 26 := ⟨_, Try.func26, by kernel_rfl, rfl⟩
instance : Goes Try.prog 27 := ⟨_, Try.func27, by kernel_rfl, rfl⟩
instance : Goes Try.prog 28 := ⟨_, Try.func28, by kernel_rfl, rfl⟩
instance : Goes Try.prog 29 := ⟨_, Try.func29, by kernel_rfl, rfl⟩
instance : Goes Try.prog 30 := ⟨_, Try.func30, by kernel_rfl, rfl⟩
instance : Goes Try.prog 31 := ⟨_, Try.func31, by kernel_rfl, rfl⟩
instance : Goes Try.prog 32 := ⟨_, Try.func32, by kernel_rfl, rfl⟩
instance : Goes Try.prog 33 := ⟨_, Try.func33, by kernel_rfl, rfl⟩
instance : Goes Try.prog 34 := ⟨_, Try.func34, by kernel_rfl, rfl⟩
instance : Goes Try.prog 35 := ⟨_, Try.func35, by kernel_rfl, rfl⟩
instance : Goes Try.prog 36 := ⟨_, Try.func36, by kernel_rfl, rfl⟩
instance : Goes Try.prog 37 := ⟨_, Try.func37, by kernel_rfl, rfl⟩
instance : Goes Try.prog 38 := ⟨_, Try.func38, by kernel_rfl, rfl⟩
instance : Goes Try.prog 39 := ⟨_, Try.func39, by kernel_rfl, rfl⟩
instance : Mixed Try.prog := ⟨by kernel_rfl⟩
end Go.Proofs.YtelholihncbfkaaS
