/-
  The types of this seat's program, as the program logic's rules ask for them. Written by a program; no condition.
-/
import Derived.Test.YtnghcfjejgdnlaaProg
import Derived.Test.YtnghcfjejgdnlaaJn
namespace Go.Proofs.Ytnghcfjejgdnlaa

instance : TI Try.prog 2 false 1 := ⟨fun _ => by kernel_rfl, fun _ => by kernel_rfl⟩
instance : ZI Try.prog 2 (.int .i64 0) := ⟨fun _ => by kernel_rfl⟩
instance : UI Try.prog 2 (.int .i64) := ⟨Try.underlying2⟩
instance : TI Try.prog 3 false 1 := ⟨fun _ => by kernel_rfl, fun _ => by kernel_rfl⟩
instance : ZI Try.prog 3 (.int .i64 0) := ⟨fun _ => by kernel_rfl⟩
instance : UI Try.prog 3 (.int .i64) := ⟨Try.underlying3⟩
instance : TI Try.prog 4 false 1 := ⟨fun _ => by kernel_rfl, fun _ => by kernel_rfl⟩
instance : ZI Try.prog 4 (.bool false) := ⟨fun _ => by kernel_rfl⟩
instance : UI Try.prog 4 .bool := ⟨Try.underlying4⟩
instance : TI Try.prog 5 false 1 := ⟨fun _ => by kernel_rfl, fun _ => by kernel_rfl⟩
instance : ZI Try.prog 5 (.int .u8 0) := ⟨fun _ => by kernel_rfl⟩
instance : UI Try.prog 5 (.int .u8) := ⟨Try.underlying5⟩
instance : TI Try.prog 9 false 1 := ⟨fun _ => by kernel_rfl, fun _ => by kernel_rfl⟩
instance : ZI Try.prog 9 (.string .empty) := ⟨fun _ => by kernel_rfl⟩
instance : UI Try.prog 9 .string := ⟨Try.underlying9⟩
instance : TI Try.prog 12 false 1 := ⟨fun _ => by kernel_rfl, fun _ => by kernel_rfl⟩
instance : ZI Try.prog 12 (.int .u64 0) := ⟨fun _ => by kernel_rfl⟩
instance : UI Try.prog 12 (.int .u64) := ⟨Try.underlying12⟩
instance : TI Try.prog 13 true 2 := ⟨fun _ => by kernel_rfl, fun _ => by kernel_rfl⟩
instance : ZI Try.prog 13 (.agg #[.string .empty, .int .u64 0]) := ⟨fun _ => by kernel_rfl⟩
instance : BI Try.prog 13 (.agg #[.string .empty, .int .u64 0]) := ⟨fun _ => by kernel_rfl⟩
instance : FI Try.prog 13 0 0 := ⟨fun _ _ _ => by kernel_rfl⟩
instance : FI Try.prog 13 1 1 := ⟨fun _ _ _ => by kernel_rfl⟩
instance : TI Try.prog 21 false 1 := ⟨fun _ => by kernel_rfl, fun _ => by kernel_rfl⟩
instance : ZI Try.prog 21 (.int .i32 0) := ⟨fun _ => by kernel_rfl⟩
instance : UI Try.prog 21 (.int .i32) := ⟨Try.underlying21⟩
instance : TI Try.prog 22 false 1 := ⟨fun _ => by kernel_rfl, fun _ => by kernel_rfl⟩
instance : ZI Try.prog 22 (.slice none 0 0) := ⟨fun _ => by kernel_rfl⟩
instance : SI Try.prog 22 27 5 72 (.agg #[.int .i64 0, .int .i64 0, .int .u64 0, .slice none 0 0, .slice none 0 0]) := ⟨Try.underlying22, by kernel_rfl, rfl, by decide, by decide⟩
instance : TI Try.prog 23 false 1 := ⟨fun _ => by kernel_rfl, fun _ => by kernel_rfl⟩
instance : ZI Try.prog 23 (.int .u64 0) := ⟨fun _ => by kernel_rfl⟩
instance : UI Try.prog 23 (.int .u64) := ⟨Try.underlying23⟩
instance : TI Try.prog 24 false 1 := ⟨fun _ => by kernel_rfl, fun _ => by kernel_rfl⟩
instance : ZI Try.prog 24 (.slice none 0 0) := ⟨fun _ => by kernel_rfl⟩
instance : SI Try.prog 24 5 1 1 (.int .u8 0) := ⟨Try.underlying24, by kernel_rfl, rfl, by decide, by decide⟩
instance : TI Try.prog 25 false 1 := ⟨fun _ => by kernel_rfl, fun _ => by kernel_rfl⟩
instance : ZI Try.prog 25 (.slice none 0 0) := ⟨fun _ => by kernel_rfl⟩
instance : SI Try.prog 25 53 8 8 (.agg (nameC 0)) := ⟨Try.underlying25, by kernel_rfl, rfl, by decide, by decide⟩
instance : TI Try.prog 26 true 5 := ⟨fun _ => by kernel_rfl, fun _ => by kernel_rfl⟩
instance : ZI Try.prog 26 (.agg #[.int .i64 0, .int .i64 0, .int .u64 0, .slice none 0 0, .slice none 0 0]) := ⟨fun _ => by kernel_rfl⟩
instance : BI Try.prog 26 (.agg #[.int .i64 0, .int .i64 0, .int .u64 0, .slice none 0 0, .slice none 0 0]) := ⟨fun _ => by kernel_rfl⟩
instance : FI Try.prog 26 0 0 := ⟨fun _ _ _ => by kernel_rfl⟩
instance : FI Try.prog 26 1 1 := ⟨fun _ _ _ => by kernel_rfl⟩
instance : FI Try.prog 26 2 2 := ⟨fun _ _ _ => by kernel_rfl⟩
instance : FI Try.prog 26 3 3 := ⟨fun _ _ _ => by kernel_rfl⟩
instance : FI Try.prog 26 4 4 := ⟨fun _ _ _ => by kernel_rfl⟩
instance : TI Try.prog 27 true 5 := ⟨fun _ => by kernel_rfl, fun _ => by kernel_rfl⟩
instance : ZI Try.prog 27 (.agg #[.int .i64 0, .int .i64 0, .int .u64 0, .slice none 0 0, .slice none 0 0]) := ⟨fun _ => by kernel_rfl⟩
instance : BI Try.prog 27 (.agg #[.int .i64 0, .int .i64 0, .int .u64 0, .slice none 0 0, .slice none 0 0]) := ⟨fun _ => by kernel_rfl⟩
instance : FI Try.prog 27 0 0 := ⟨fun _ _ _ => by kernel_rfl⟩
instance : FI Try.prog 27 1 1 := ⟨fun _ _ _ => by kernel_rfl⟩
instance : FI Try.prog 27 2 2 := ⟨fun _ _ _ => by kernel_rfl⟩
instance : FI Try.prog 27 3 3 := ⟨fun _ _ _ => by kernel_rfl⟩
instance : FI Try.prog 27 4 4 := ⟨fun _ _ _ => by kernel_rfl⟩
instance : TI Try.prog 39 true 3 := ⟨fun _ => by kernel_rfl, fun _ => by kernel_rfl⟩
instance : ZI Try.prog 39 (.agg #[.slice none 0 0, .slice none 0 0, .slice none 0 0]) := ⟨fun _ => by kernel_rfl⟩
instance : BI Try.prog 39 (.agg #[.slice none 0 0, .slice none 0 0, .slice none 0 0]) := ⟨fun _ => by kernel_rfl⟩
instance : AI Try.prog 39 3 1 := ⟨⟨24, Try.underlying39, by kernel_rfl⟩⟩
instance : TI Try.prog 51 false 1 := ⟨fun _ => by kernel_rfl, fun _ => by kernel_rfl⟩
instance : ZI Try.prog 51 (.int .u64 0) := ⟨fun _ => by kernel_rfl⟩
instance : UI Try.prog 51 (.int .u64) := ⟨Try.underlying51⟩
instance : TI Try.prog 52 true 8 := ⟨fun _ => by kernel_rfl, fun _ => by kernel_rfl⟩
instance : ZI Try.prog 52 (.agg (nameC 0)) := ⟨fun _ => by kernel_rfl⟩
instance : BI Try.prog 52 (.agg (nameC 0)) := ⟨fun _ => by kernel_rfl⟩
instance : NI Try.prog 52 := ⟨by kernel_rfl, 5, Try.underlying52, by kernel_rfl, Try.underlying5, by kernel_rfl⟩
instance : AI Try.prog 52 8 1 := ⟨⟨5, Try.underlying52, by kernel_rfl⟩⟩
instance : TI Try.prog 53 true 8 := ⟨fun _ => by kernel_rfl, fun _ => by kernel_rfl⟩
instance : ZI Try.prog 53 (.agg (nameC 0)) := ⟨fun _ => by kernel_rfl⟩
instance : BI Try.prog 53 (.agg (nameC 0)) := ⟨fun _ => by kernel_rfl⟩
instance : NI Try.prog 53 := ⟨by kernel_rfl, 5, Try.underlying53, by kernel_rfl, Try.underlying5, by kernel_rfl⟩
instance : AI Try.prog 53 8 1 := ⟨⟨5, Try.underlying53, by kernel_rfl⟩⟩
instance : TI Try.prog 64 false 1 := ⟨fun _ => by kernel_rfl, fun _ => by kernel_rfl⟩
instance : ZI Try.prog 64 (.int .u32 0) := ⟨fun _ => by kernel_rfl⟩
instance : UI Try.prog 64 (.int .u32) := ⟨Try.underlying64⟩
instance : TI Try.prog 68 false 1 := ⟨fun _ => by kernel_rfl, fun _ => by kernel_rfl⟩
instance : ZI Try.prog 68 (.pointer none) := ⟨fun _ => by kernel_rfl⟩
instance : FnI Try.prog 3 := ⟨fun _ _ => by kernel_rfl⟩
instance : FnI Try.prog 4 := ⟨fun _ _ => by kernel_rfl⟩
instance : FnI Try.prog 5 := ⟨fun _ _ => by kernel_rfl⟩
instance : FnI Try.prog 6 := ⟨fun _ _ => by kernel_rfl⟩
instance : FnI Try.prog 7 := ⟨fun _ _ => by kernel_rfl⟩
instance : FnI Try.prog 8 := ⟨fun _ _ => by kernel_rfl⟩
instance : FnI Try.prog 9 := ⟨fun _ _ => by kernel_rfl⟩
instance : FnI Try.prog 10 := ⟨fun _ _ => by kernel_rfl⟩
instance : FnI Try.prog 11 := ⟨fun _ _ => by kernel_rfl⟩
instance : FnI Try.prog 12 := ⟨fun _ _ => by kernel_rfl⟩
instance : FnI Try.prog 13 := ⟨fun _ _ => by kernel_rfl⟩
instance : FnI Try.prog 14 := ⟨fun _ _ => by kernel_rfl⟩
instance : FnI Try.prog 15 := ⟨fun _ _ => by kernel_rfl⟩
instance : FnI Try.prog 16 := ⟨fun _ _ => by kernel_rfl⟩
instance : FnI Try.prog 17 := ⟨fun _ _ => by kernel_rfl⟩
instance : FnI Try.prog 18 := ⟨fun _ _ => by kernel_rfl⟩
instance : FnI Try.prog 19 := ⟨fun _ _ => by kernel_rfl⟩
instance : FnI Try.prog 20 := ⟨fun _ _ => by kernel_rfl⟩
instance : FnI Try.prog 21 := ⟨fun _ _ => by kernel_rfl⟩
instance : FnI Try.prog 22 := ⟨fun _ _ => by kernel_rfl⟩
instance : FnI Try.prog 23 := ⟨fun _ _ => by kernel_rfl⟩
instance : FnI Try.prog 24 := ⟨fun _ _ => by kernel_rfl⟩
instance : FnI Try.prog 25 := ⟨fun _ _ => by kernel_rfl⟩
instance : FnI Try.prog 26 := ⟨fun _ _ => by kernel_rfl⟩
instance : FnI Try.prog 27 := ⟨fun _ _ => by kernel_rfl⟩
instance : FnI Try.prog 28 := ⟨fun _ _ => by kernel_rfl⟩
instance : FnI Try.prog 29 := ⟨fun _ _ => by kernel_rfl⟩
instance : FnI Try.prog 30 := ⟨fun _ _ => by kernel_rfl⟩
end Go.Proofs.Ytnghcfjejgdnlaa
