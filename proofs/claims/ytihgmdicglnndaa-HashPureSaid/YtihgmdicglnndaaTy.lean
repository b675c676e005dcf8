/-
  The types of this seat's program, as the program logic's rules ask for them. Written by a program; no condition.
-/
import Derived.Test.YtihgmdicglnndaaProg
import Derived.Test.YtihgmdicglnndaaJn
namespace Go.Proofs.Ytihgmdicglnndaa

instance : TI Try.prog 2 false 1 := ⟨fun _ => by kernel_rfl, fun _ => by kernel_rfl⟩
instance : ZI Try.prog 2 (.int .i64 0) := ⟨fun _ => by kernel_rfl⟩
instance : UI Try.prog 2 (.int .i64) := ⟨Try.underlying2⟩
instance : TI Try.prog 3 false 1 := ⟨fun _ => by kernel_rfl, fun _ => by kernel_rfl⟩
instance : ZI Try.prog 3 (.int .i64 0) := ⟨fun _ => by kernel_rfl⟩
instance : UI Try.prog 3 (.int .i64) := ⟨Try.underlying3⟩
instance : TI Try.prog 4 false 1 := ⟨fun _ => by kernel_rfl, fun _ => by kernel_rfl⟩
instance : ZI Try.prog 4 (.bool false) := ⟨fun _ => by kernel_rfl⟩
instance : UI Try.prog 4 .bool := ⟨Try.underlying4⟩
instance : TI Try.prog 5 false 1 := ⟨fun _ => by kernel_rfl, fun _ => by kernel_rfl⟩
instance : ZI Try.prog 5 (.int .u8 0) := ⟨fun _ => by kernel_rfl⟩
instance : UI Try.prog 5 (.int .u8) := ⟨Try.underlying5⟩
instance : TI Try.prog 9 false 1 := ⟨fun _ => by kernel_rfl, fun _ => by kernel_rfl⟩
instance : ZI Try.prog 9 (.string .empty) := ⟨fun _ => by kernel_rfl⟩
instance : UI Try.prog 9 .string := ⟨Try.underlying9⟩
instance : TI Try.prog 12 false 1 := ⟨fun _ => by kernel_rfl, fun _ => by kernel_rfl⟩
instance : ZI Try.prog 12 (.int .u64 0) := ⟨fun _ => by kernel_rfl⟩
instance : UI Try.prog 12 (.int .u64) := ⟨Try.underlying12⟩
instance : TI Try.prog 13 true 2 := ⟨fun _ => by kernel_rfl, fun _ => by kernel_rfl⟩
instance : ZI Try.prog 13 (.agg #[.string .empty, .int .u64 0]) := ⟨fun _ => by kernel_rfl⟩
instance : BI Try.prog 13 (.agg #[.string .empty, .int .u64 0]) := ⟨fun _ => by kernel_rfl⟩
instance : FI Try.prog 13 0 0 := ⟨fun _ _ _ => by kernel_rfl⟩
instance : FI Try.prog 13 1 1 := ⟨fun _ _ _ => by kernel_rfl⟩
instance : TI Try.prog 21 false 1 := ⟨fun _ => by kernel_rfl, fun _ => by kernel_rfl⟩
instance : ZI Try.prog 21 (.int .i32 0) := ⟨fun _ => by kernel_rfl⟩
instance : UI Try.prog 21 (.int .i32) := ⟨Try.underlying21⟩
instance : TI Try.prog 22 true 8 := ⟨fun _ => by kernel_rfl, fun _ => by kernel_rfl⟩
instance : ZI Try.prog 22 (.agg (nameC 0)) := ⟨fun _ => by kernel_rfl⟩
instance : BI Try.prog 22 (.agg (nameC 0)) := ⟨fun _ => by kernel_rfl⟩
instance : NI Try.prog 22 := ⟨by kernel_rfl, 5, Try.underlying22, by kernel_rfl, Try.underlying5, by kernel_rfl⟩
instance : AI Try.prog 22 8 1 := ⟨⟨5, Try.underlying22, by kernel_rfl⟩⟩
instance : TI Try.prog 23 true 8 := ⟨fun _ => by kernel_rfl, fun _ => by kernel_rfl⟩
instance : ZI Try.prog 23 (.agg (nameC 0)) := ⟨fun _ => by kernel_rfl⟩
instance : BI Try.prog 23 (.agg (nameC 0)) := ⟨fun _ => by kernel_rfl⟩
instance : NI Try.prog 23 := ⟨by kernel_rfl, 5, Try.underlying23, by kernel_rfl, Try.underlying5, by kernel_rfl⟩
instance : AI Try.prog 23 8 1 := ⟨⟨5, Try.underlying23, by kernel_rfl⟩⟩
instance : TI Try.prog 24 false 1 := ⟨fun _ => by kernel_rfl, fun _ => by kernel_rfl⟩
instance : ZI Try.prog 24 (.slice none 0 0) := ⟨fun _ => by kernel_rfl⟩
instance : SI Try.prog 24 3 1 8 (.int .i64 0) := ⟨Try.underlying24, by kernel_rfl, rfl, by decide, by decide⟩
instance : TI Try.prog 29 false 1 := ⟨fun _ => by kernel_rfl, fun _ => by kernel_rfl⟩
instance : ZI Try.prog 29 (.int .u64 0) := ⟨fun _ => by kernel_rfl⟩
instance : UI Try.prog 29 (.int .u64) := ⟨Try.underlying29⟩
instance : TI Try.prog 34 false 1 := ⟨fun _ => by kernel_rfl, fun _ => by kernel_rfl⟩
instance : ZI Try.prog 34 (.slice none 0 0) := ⟨fun _ => by kernel_rfl⟩
instance : SI Try.prog 34 5 1 1 (.int .u8 0) := ⟨Try.underlying34, by kernel_rfl, rfl, by decide, by decide⟩
instance : TI Try.prog 41 false 1 := ⟨fun _ => by kernel_rfl, fun _ => by kernel_rfl⟩
instance : ZI Try.prog 41 (.slice none 0 0) := ⟨fun _ => by kernel_rfl⟩
instance : SI Try.prog 41 23 8 8 (.agg (nameC 0)) := ⟨Try.underlying41, by kernel_rfl, rfl, by decide, by decide⟩
instance : TI Try.prog 48 false 1 := ⟨fun _ => by kernel_rfl, fun _ => by kernel_rfl⟩
instance : ZI Try.prog 48 (.int .u64 0) := ⟨fun _ => by kernel_rfl⟩
instance : UI Try.prog 48 (.int .u64) := ⟨Try.underlying48⟩
instance : TI Try.prog 49 true 2 := ⟨fun _ => by kernel_rfl, fun _ => by kernel_rfl⟩
instance : ZI Try.prog 49 (.agg #[.int .u64 0, .int .u64 0]) := ⟨fun _ => by kernel_rfl⟩
instance : BI Try.prog 49 (.agg #[.int .u64 0, .int .u64 0]) := ⟨fun _ => by kernel_rfl⟩
instance : FI Try.prog 49 0 0 := ⟨fun _ _ _ => by kernel_rfl⟩
instance : FI Try.prog 49 1 1 := ⟨fun _ _ _ => by kernel_rfl⟩
instance : TI Try.prog 50 true 2 := ⟨fun _ => by kernel_rfl, fun _ => by kernel_rfl⟩
instance : ZI Try.prog 50 (.agg #[.int .u64 0, .int .u64 0]) := ⟨fun _ => by kernel_rfl⟩
instance : BI Try.prog 50 (.agg #[.int .u64 0, .int .u64 0]) := ⟨fun _ => by kernel_rfl⟩
instance : FI Try.prog 50 0 0 := ⟨fun _ _ _ => by kernel_rfl⟩
instance : FI Try.prog 50 1 1 := ⟨fun _ _ _ => by kernel_rfl⟩
instance : TI Try.prog 55 true 16 := ⟨fun _ => by kernel_rfl, fun _ => by kernel_rfl⟩
instance : ZI Try.prog 55 (.agg #[.int .u8 0, .int .u8 0, .int .u8 0, .int .u8 0, .int .u8 0, .int .u8 0, .int .u8 0, .int .u8 0, .int .u8 0, .int .u8 0, .int .u8 0, .int .u8 0, .int .u8 0, .int .u8 0, .int .u8 0, .int .u8 0]) := ⟨fun _ => by kernel_rfl⟩
instance : BI Try.prog 55 (.agg #[.int .u8 0, .int .u8 0, .int .u8 0, .int .u8 0, .int .u8 0, .int .u8 0, .int .u8 0, .int .u8 0, .int .u8 0, .int .u8 0, .int .u8 0, .int .u8 0, .int .u8 0, .int .u8 0, .int .u8 0, .int .u8 0]) := ⟨fun _ => by kernel_rfl⟩
instance : AI Try.prog 55 16 1 := ⟨⟨5, Try.underlying55, by kernel_rfl⟩⟩
instance : TI Try.prog 59 false 1 := ⟨fun _ => by kernel_rfl, fun _ => by kernel_rfl⟩
instance : ZI Try.prog 59 (.pointer none) := ⟨fun _ => by kernel_rfl⟩
instance : TI Try.prog 69 false 1 := ⟨fun _ => by kernel_rfl, fun _ => by kernel_rfl⟩
instance : ZI Try.prog 69 (.int .u32 0) := ⟨fun _ => by kernel_rfl⟩
instance : UI Try.prog 69 (.int .u32) := ⟨Try.underlying69⟩
instance : TI Try.prog 73 false 1 := ⟨fun _ => by kernel_rfl, fun _ => by kernel_rfl⟩
instance : ZI Try.prog 73 (.pointer none) := ⟨fun _ => by kernel_rfl⟩
instance : FnI Try.prog 3 := ⟨fun _ _ => by kernel_rfl⟩
instance : FnI Try.prog 4 := ⟨fun _ _ => by kernel_rfl⟩
instance : FnI Try.prog 5 := ⟨fun _ _ => by kernel_rfl⟩
instance : FnI Try.prog 6 := ⟨fun _ _ => by kernel_rfl⟩
instance : FnI Try.prog 7 := ⟨fun _ _ => by kernel_rfl⟩
instance : FnI Try.prog 8 := ⟨fun _ _ => by kernel_rfl⟩
instance : FnI Try.prog 9 := ⟨fun _ _ => by kernel_rfl⟩
instance : FnI Try.prog 10 := ⟨fun _ _ => by kernel_rfl⟩
instance : FnI Try.prog 11 := ⟨fun _ _ => by kernel_rfl⟩
instance : FnI Try.prog 12 := ⟨fun _ _ => by kernel_rfl⟩
instance : FnI Try.prog 13 := ⟨fun _ _ => by kernel_rfl⟩
instance : FnI Try.prog 14 := ⟨fun _ _ => by kernel_rfl⟩
instance : FnI Try.prog 15 := ⟨fun _ _ => by kernel_rfl⟩
instance : FnI Try.prog 16 := ⟨fun _ _ => by kernel_rfl⟩
instance : FnI Try.prog 17 := ⟨fun _ _ => by kernel_rfl⟩
instance : FnI Try.prog 18 := ⟨fun _ _ => by kernel_rfl⟩
instance : FnI Try.prog 19 := ⟨fun _ _ => by kernel_rfl⟩
instance : FnI Try.prog 20 := ⟨fun _ _ => by kernel_rfl⟩
instance : FnI Try.prog 21 := ⟨fun _ _ => by kernel_rfl⟩
instance : FnI Try.prog 22 := ⟨fun _ _ => by kernel_rfl⟩
instance : FnI Try.prog 23 := ⟨fun _ _ => by kernel_rfl⟩
instance : FnI Try.prog 24 := ⟨fun _ _ => by kernel_rfl⟩
instance : FnI Try.prog 25 := ⟨fun _ _ => by kernel_rfl⟩
instance : FnI Try.prog 26 := ⟨fun _ _ => by kernel_rfl⟩
instance : FnI Try.prog 27 := ⟨fun _ _ => by kernel_rfl⟩
instance : FnI Try.prog 28 := ⟨fun _ _ => by kernel_rfl⟩
instance : FnI Try.prog 29 := ⟨fun _ _ => by kernel_rfl⟩
instance : FnI Try.prog 30 := ⟨fun _ _ => by kernel_rfl⟩
instance : FnI Try.prog 31 := ⟨fun _ _ => by kernel_rfl⟩
instance : FnI Try.prog 32 := ⟨fun _ _ => by kernel_rfl⟩
instance : FnI Try.prog 33 := ⟨fun _ _ => by kernel_rfl⟩
instance : FnI Try.prog 34 := ⟨fun _ _ => by kernel_rfl⟩
instance : FnI Try.prog 35 := ⟨fun _ _ => by kernel_rfl⟩
instance : FnI Try.prog 36 := ⟨fun _ _ => by kernel_rfl⟩
instance : FnI Try.prog 37 := ⟨fun _ _ => by kernel_rfl⟩
instance : FnI Try.prog 38 := ⟨fun _ _ => by kernel_rfl⟩
instance : FnI Try.prog 39 := ⟨fun _ _ => by kernel_rfl⟩
instance : FnI Try.prog 40 := ⟨fun _ _ => by kernel_rfl⟩
instance : FnI Try.prog 41 := ⟨fun _ _ => by kernel_rfl⟩
instance : FnI Try.prog 42 := ⟨fun _ _ => by kernel_rfl⟩
instance : FnI Try.prog 43 := ⟨fun _ _ => by kernel_rfl⟩
instance : FnI Try.prog 44 := ⟨fun _ _ => by kernel_rfl⟩
instance : FnI Try.prog 45 := ⟨fun _ _ => by kernel_rfl⟩
instance : FnI Try.prog 46 := ⟨fun _ _ => by kernel_rfl⟩
instance : FnI Try.prog 47 := ⟨fun _ _ => by kernel_rfl⟩
instance : FnI Try.prog 48 := ⟨fun _ _ => by kernel_rfl⟩
end Go.Proofs.Ytihgmdicglnndaa
