/-
  The types of this seat's program, as the program logic's rules ask for them. Written by a program; no condition.
-/
import Derived.Test.YtocmcoknmjojcaaProg
import Derived.Test.YtocmcoknmjojcaaJn
namespace Go.Proofs.Ytocmcoknmjojcaa

instance : TI Try.prog 2 false 1 := ⟨fun _ => by kernel_rfl, fun _ => by kernel_rfl⟩
instance : ZI Try.prog 2 (.int .i64 0) := ⟨fun _ => by kernel_rfl⟩
instance : UI Try.prog 2 (.int .i64) := ⟨Try.underlying2⟩
instance : TI Try.prog 3 false 1 := ⟨fun _ => by kernel_rfl, fun _ => by kernel_rfl⟩
instance : ZI Try.prog 3 (.int .i64 0) := ⟨fun _ => by kernel_rfl⟩
instance : UI Try.prog 3 (.int .i64) := ⟨Try.underlying3⟩
instance : TI Try.prog 4 false 1 := ⟨fun _ => by kernel_rfl, fun _ => by kernel_rfl⟩
instance : ZI Try.prog 4 (.bool false) := ⟨fun _ => by kernel_rfl⟩
instance : UI Try.prog 4 .bool := ⟨Try.underlying4⟩
instance : TI Try.prog 5 false 1 := ⟨fun _ => by kernel_rfl, fun _ => by kernel_rfl⟩
instance : ZI Try.prog 5 (.int .u8 0) := ⟨fun _ => by kernel_rfl⟩
instance : UI Try.prog 5 (.int .u8) := ⟨Try.underlying5⟩
instance : TI Try.prog 9 false 1 := ⟨fun _ => by kernel_rfl, fun _ => by kernel_rfl⟩
instance : ZI Try.prog 9 (.string .empty) := ⟨fun _ => by kernel_rfl⟩
instance : UI Try.prog 9 .string := ⟨Try.underlying9⟩
instance : TI Try.prog 12 false 1 := ⟨fun _ => by kernel_rfl, fun _ => by kernel_rfl⟩
instance : ZI Try.prog 12 (.int .u64 0) := ⟨fun _ => by kernel_rfl⟩
instance : UI Try.prog 12 (.int .u64) := ⟨Try.underlying12⟩
instance : TI Try.prog 13 true 2 := ⟨fun _ => by kernel_rfl, fun _ => by kernel_rfl⟩
instance : ZI Try.prog 13 (.agg #[.string .empty, .int .u64 0]) := ⟨fun _ => by kernel_rfl⟩
instance : BI Try.prog 13 (.agg #[.string .empty, .int .u64 0]) := ⟨fun _ => by kernel_rfl⟩
instance : FI Try.prog 13 0 0 := ⟨fun _ _ _ => by kernel_rfl⟩
instance : FI Try.prog 13 1 1 := ⟨fun _ _ _ => by kernel_rfl⟩
instance : TI Try.prog 21 false 1 := ⟨fun _ => by kernel_rfl, fun _ => by kernel_rfl⟩
instance : ZI Try.prog 21 (.int .i32 0) := ⟨fun _ => by kernel_rfl⟩
instance : UI Try.prog 21 (.int .i32) := ⟨Try.underlying21⟩
instance : TI Try.prog 25 true 8 := ⟨fun _ => by kernel_rfl, fun _ => by kernel_rfl⟩
instance : ZI Try.prog 25 (.agg (nameC 0)) := ⟨fun _ => by kernel_rfl⟩
instance : BI Try.prog 25 (.agg (nameC 0)) := ⟨fun _ => by kernel_rfl⟩
instance : NI Try.prog 25 := ⟨by kernel_rfl, 5, Try.underlying25, by kernel_rfl, Try.underlying5, by kernel_rfl⟩
instance : AI Try.prog 25 8 1 := ⟨⟨5, Try.underlying25, by kernel_rfl⟩⟩
instance : TI Try.prog 26 true 8 := ⟨fun _ => by kernel_rfl, fun _ => by kernel_rfl⟩
instance : ZI Try.prog 26 (.agg (nameC 0)) := ⟨fun _ => by kernel_rfl⟩
instance : BI Try.prog 26 (.agg (nameC 0)) := ⟨fun _ => by kernel_rfl⟩
instance : NI Try.prog 26 := ⟨by kernel_rfl, 5, Try.underlying26, by kernel_rfl, Try.underlying5, by kernel_rfl⟩
instance : AI Try.prog 26 8 1 := ⟨⟨5, Try.underlying26, by kernel_rfl⟩⟩
instance : TI Try.prog 27 false 1 := ⟨fun _ => by kernel_rfl, fun _ => by kernel_rfl⟩
instance : ZI Try.prog 27 (.slice none 0 0) := ⟨fun _ => by kernel_rfl⟩
instance : SI Try.prog 27 26 8 8 (.agg (nameC 0)) := ⟨Try.underlying27, by kernel_rfl, rfl, by decide, by decide⟩
instance : TI Try.prog 35 false 1 := ⟨fun _ => by kernel_rfl, fun _ => by kernel_rfl⟩
instance : ZI Try.prog 35 (.slice none 0 0) := ⟨fun _ => by kernel_rfl⟩
instance : SI Try.prog 35 38 9 24 (.agg #[.string .empty, .int .u8 0, .int .u8 0, .int .u8 0, .int .u8 0, .int .u8 0, .int .u8 0, .int .u8 0, .int .u8 0]) := ⟨Try.underlying35, by kernel_rfl, rfl, by decide, by decide⟩
instance : TI Try.prog 37 true 9 := ⟨fun _ => by kernel_rfl, fun _ => by kernel_rfl⟩
instance : ZI Try.prog 37 (.agg #[.string .empty, .int .u8 0, .int .u8 0, .int .u8 0, .int .u8 0, .int .u8 0, .int .u8 0, .int .u8 0, .int .u8 0]) := ⟨fun _ => by kernel_rfl⟩
instance : BI Try.prog 37 (.agg #[.string .empty, .int .u8 0, .int .u8 0, .int .u8 0, .int .u8 0, .int .u8 0, .int .u8 0, .int .u8 0, .int .u8 0]) := ⟨fun _ => by kernel_rfl⟩
instance : FI Try.prog 37 0 0 := ⟨fun _ _ _ => by kernel_rfl⟩
instance : FI Try.prog 37 1 1 := ⟨fun _ _ _ => by kernel_rfl⟩
instance : TI Try.prog 38 true 9 := ⟨fun _ => by kernel_rfl, fun _ => by kernel_rfl⟩
instance : ZI Try.prog 38 (.agg #[.string .empty, .int .u8 0, .int .u8 0, .int .u8 0, .int .u8 0, .int .u8 0, .int .u8 0, .int .u8 0, .int .u8 0]) := ⟨fun _ => by kernel_rfl⟩
instance : BI Try.prog 38 (.agg #[.string .empty, .int .u8 0, .int .u8 0, .int .u8 0, .int .u8 0, .int .u8 0, .int .u8 0, .int .u8 0, .int .u8 0]) := ⟨fun _ => by kernel_rfl⟩
instance : FI Try.prog 38 0 0 := ⟨fun _ _ _ => by kernel_rfl⟩
instance : FI Try.prog 38 1 1 := ⟨fun _ _ _ => by kernel_rfl⟩
instance : TI Try.prog 44 false 1 := ⟨fun _ => by kernel_rfl, fun _ => by kernel_rfl⟩
instance : ZI Try.prog 44 (.int .u64 0) := ⟨fun _ => by kernel_rfl⟩
instance : UI Try.prog 44 (.int .u64) := ⟨Try.underlying44⟩
instance : TI Try.prog 51 true 16 := ⟨fun _ => by kernel_rfl, fun _ => by kernel_rfl⟩
instance : ZI Try.prog 51 (.agg #[.int .u8 0, .int .u8 0, .int .u8 0, .int .u8 0, .int .u8 0, .int .u8 0, .int .u8 0, .int .u8 0, .int .u8 0, .int .u8 0, .int .u8 0, .int .u8 0, .int .u8 0, .int .u8 0, .int .u8 0, .int .u8 0]) := ⟨fun _ => by kernel_rfl⟩
instance : BI Try.prog 51 (.agg #[.int .u8 0, .int .u8 0, .int .u8 0, .int .u8 0, .int .u8 0, .int .u8 0, .int .u8 0, .int .u8 0, .int .u8 0, .int .u8 0, .int .u8 0, .int .u8 0, .int .u8 0, .int .u8 0, .int .u8 0, .int .u8 0]) := ⟨fun _ => by kernel_rfl⟩
instance : AI Try.prog 51 16 1 := ⟨⟨5, Try.underlying51, by kernel_rfl⟩⟩
instance : TI Try.prog 52 false 1 := ⟨fun _ => by kernel_rfl, fun _ => by kernel_rfl⟩
instance : ZI Try.prog 52 (.slice none 0 0) := ⟨fun _ => by kernel_rfl⟩
instance : SI Try.prog 52 5 1 1 (.int .u8 0) := ⟨Try.underlying52, by kernel_rfl, rfl, by decide, by decide⟩
instance : TI Try.prog 54 false 1 := ⟨fun _ => by kernel_rfl, fun _ => by kernel_rfl⟩
instance : ZI Try.prog 54 (.int .u64 0) := ⟨fun _ => by kernel_rfl⟩
instance : UI Try.prog 54 (.int .u64) := ⟨Try.underlying54⟩
instance : TI Try.prog 56 true 2 := ⟨fun _ => by kernel_rfl, fun _ => by kernel_rfl⟩
instance : ZI Try.prog 56 (.agg #[.int .u64 0, .int .u64 0]) := ⟨fun _ => by kernel_rfl⟩
instance : BI Try.prog 56 (.agg #[.int .u64 0, .int .u64 0]) := ⟨fun _ => by kernel_rfl⟩
instance : FI Try.prog 56 0 0 := ⟨fun _ _ _ => by kernel_rfl⟩
instance : FI Try.prog 56 1 1 := ⟨fun _ _ _ => by kernel_rfl⟩
instance : TI Try.prog 57 true 2 := ⟨fun _ => by kernel_rfl, fun _ => by kernel_rfl⟩
instance : ZI Try.prog 57 (.agg #[.int .u64 0, .int .u64 0]) := ⟨fun _ => by kernel_rfl⟩
instance : BI Try.prog 57 (.agg #[.int .u64 0, .int .u64 0]) := ⟨fun _ => by kernel_rfl⟩
instance : FI Try.prog 57 0 0 := ⟨fun _ _ _ => by kernel_rfl⟩
instance : FI Try.prog 57 1 1 := ⟨fun _ _ _ => by kernel_rfl⟩
instance : TI Try.prog 63 false 1 := ⟨fun _ => by kernel_rfl, fun _ => by kernel_rfl⟩
instance : ZI Try.prog 63 (.pointer none) := ⟨fun _ => by kernel_rfl⟩
instance : TI Try.prog 73 false 1 := ⟨fun _ => by kernel_rfl, fun _ => by kernel_rfl⟩
instance : ZI Try.prog 73 (.int .u32 0) := ⟨fun _ => by kernel_rfl⟩
instance : UI Try.prog 73 (.int .u32) := ⟨Try.underlying73⟩
instance : TI Try.prog 77 false 1 := ⟨fun _ => by kernel_rfl, fun _ => by kernel_rfl⟩
instance : ZI Try.prog 77 (.pointer none) := ⟨fun _ => by kernel_rfl⟩
instance : FnI Try.prog 3 := ⟨fun _ _ => by kernel_rfl⟩
instance : FnI Try.prog 4 := ⟨fun _ _ => by kernel_rfl⟩
instance : FnI Try.prog 5 := ⟨fun _ _ => by kernel_rfl⟩
instance : FnI Try.prog 6 := ⟨fun _ _ => by kernel_rfl⟩
instance : FnI Try.prog 7 := ⟨fun _ _ => by kernel_rfl⟩
instance : FnI Try.prog 8 := ⟨fun _ _ => by kernel_rfl⟩
instance : FnI Try.prog 9 := ⟨fun _ _ => by kernel_rfl⟩
instance : FnI Try.prog 10 := ⟨fun _ _ => by kernel_rfl⟩
instance : FnI Try.prog 11 := ⟨fun _ _ => by kernel_rfl⟩
instance : FnI Try.prog 12 := ⟨fun _ _ => by kernel_rfl⟩
instance : FnI Try.prog 13 := ⟨fun _ _ => by kernel_rfl⟩
instance : FnI Try.prog 14 := ⟨fun _ _ => by kernel_rfl⟩
instance : FnI Try.prog 15 := ⟨fun _ _ => by kernel_rfl⟩
instance : FnI Try.prog 16 := ⟨fun _ _ => by kernel_rfl⟩
instance : FnI Try.prog 17 := ⟨fun _ _ => by kernel_rfl⟩
instance : FnI Try.prog 18 := ⟨fun _ _ => by kernel_rfl⟩
instance : FnI Try.prog 19 := ⟨fun _ _ => by kernel_rfl⟩
instance : FnI Try.prog 20 := ⟨fun _ _ => by kernel_rfl⟩
instance : FnI Try.prog 21 := ⟨fun _ _ => by kernel_rfl⟩
instance : FnI Try.prog 22 := ⟨fun _ _ => by kernel_rfl⟩
instance : FnI Try.prog 23 := ⟨fun _ _ => by kernel_rfl⟩
instance : FnI Try.prog 24 := ⟨fun _ _ => by kernel_rfl⟩
instance : FnI Try.prog 25 := ⟨fun _ _ => by kernel_rfl⟩
instance : FnI Try.prog 26 := ⟨fun _ _ => by kernel_rfl⟩
instance : FnI Try.prog 27 := ⟨fun _ _ => by kernel_rfl⟩
instance : FnI Try.prog 28 := ⟨fun _ _ => by kernel_rfl⟩
instance : FnI Try.prog 29 := ⟨fun _ _ => by kernel_rfl⟩
instance : FnI Try.prog 30 := ⟨fun _ _ => by kernel_rfl⟩
instance : FnI Try.prog 31 := ⟨fun _ _ => by kernel_rfl⟩
instance : FnI Try.prog 32 := ⟨fun _ _ => by kernel_rfl⟩
instance : FnI Try.prog 33 := ⟨fun _ _ => by kernel_rfl⟩
instance : FnI Try.prog 34 := ⟨fun _ _ => by kernel_rfl⟩
instance : FnI Try.prog 35 := ⟨fun _ _ => by kernel_rfl⟩
instance : FnI Try.prog 36 := ⟨fun _ _ => by kernel_rfl⟩
instance : FnI Try.prog 37 := ⟨fun _ _ => by kernel_rfl⟩
instance : FnI Try.prog 38 := ⟨fun _ _ => by kernel_rfl⟩
instance : FnI Try.prog 39 := ⟨fun _ _ => by kernel_rfl⟩
instance : FnI Try.prog 40 := ⟨fun _ _ => by kernel_rfl⟩
instance : FnI Try.prog 41 := ⟨fun _ _ => by kernel_rfl⟩
instance : FnI Try.prog 42 := ⟨fun _ _ => by kernel_rfl⟩
instance : FnI Try.prog 43 := ⟨fun _ _ => by kernel_rfl⟩
instance : FnI Try.prog 44 := ⟨fun _ _ => by kernel_rfl⟩
end Go.Proofs.Ytocmcoknmjojcaa
