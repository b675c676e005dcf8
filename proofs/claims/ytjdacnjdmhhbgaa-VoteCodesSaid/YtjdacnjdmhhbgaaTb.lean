/-
  How structs and arrays of this seat's program are built, for the program logic's rules. Written by a program; no condition.
-/
import Derived.Test.YtjdacnjdmhhbgaaTy
import Derived.Test.YtjdacnjdmhhbgaaBld
set_option linter.unusedSimpArgs false
set_option linter.unusedVariables false
set_option linter.unusedSectionVars false
namespace Go.Proofs.Ytjdacnjdmhhbgaa

instance : PI Try.prog 13 [.string .empty, .int .u64 0] [(0, 1), (1, 1)] := PI.struct Try.underlying13 (fun _ => by kernel_rfl) (fun _ => by kernel_rfl)
instance : PI Try.prog 23 [.int .u8 0, .int .u8 0, .int .u8 0, .int .u8 0, .int .u8 0, .int .u8 0, .int .u8 0, .int .u8 0] [(0, 1), (1, 1), (2, 1), (3, 1), (4, 1), (5, 1), (6, 1), (7, 1)] := PI.array (size := 1) Try.underlying23 (fun _ => by kernel_rfl) (by kernel_rfl) rfl
instance : PI Try.prog 24 [.int .u8 0, .int .u8 0, .int .u8 0, .int .u8 0, .int .u8 0, .int .u8 0, .int .u8 0, .int .u8 0] [(0, 1), (1, 1), (2, 1), (3, 1), (4, 1), (5, 1), (6, 1), (7, 1)] := PI.array (size := 1) Try.underlying24 (fun _ => by kernel_rfl) (by kernel_rfl) rfl
instance : PI Try.prog 25 [.int .i64 0, .int .i64 0, .int .i64 0, .int .i64 0, .int .i64 0, .int .i64 0, .int .u8 0, .int .u8 0, .int .u8 0, .int .u8 0, .int .u8 0, .int .u8 0, .int .u8 0, .int .u8 0, .int .u8 0, .int .u8 0, .int .u8 0, .int .u8 0, .int .u8 0, .int .u8 0, .int .u8 0, .int .u8 0] [(0, 1), (1, 1), (2, 1), (3, 1), (4, 1), (5, 1), (6, 8), (14, 8)] := PI.struct Try.underlying25 (fun _ => by kernel_rfl) (fun _ => by kernel_rfl)
instance : PI Try.prog 26 [.int .i64 0, .int .i64 0, .int .i64 0, .int .i64 0, .int .i64 0, .int .i64 0, .int .u8 0, .int .u8 0, .int .u8 0, .int .u8 0, .int .u8 0, .int .u8 0, .int .u8 0, .int .u8 0, .int .u8 0, .int .u8 0, .int .u8 0, .int .u8 0, .int .u8 0, .int .u8 0, .int .u8 0, .int .u8 0] [(0, 1), (1, 1), (2, 1), (3, 1), (4, 1), (5, 1), (6, 8), (14, 8)] := PI.struct Try.underlying26 (fun _ => by kernel_rfl) (fun _ => by kernel_rfl)
instance : PI Try.prog 45 [.int .i64 0, .int .i64 0, .int .i64 0, .int .i64 0, .int .i64 0] [(0, 1), (1, 1), (2, 1), (3, 1), (4, 1)] := PI.array (size := 1) Try.underlying45 (fun _ => by kernel_rfl) (by kernel_rfl) rfl
instance : PI Try.prog 53 [.int .u64 0, .int .u64 0] [(0, 1), (1, 1)] := PI.struct Try.underlying53 (fun _ => by kernel_rfl) (fun _ => by kernel_rfl)
instance : PI Try.prog 54 [.int .u64 0, .int .u64 0] [(0, 1), (1, 1)] := PI.struct Try.underlying54 (fun _ => by kernel_rfl) (fun _ => by kernel_rfl)
end Go.Proofs.Ytjdacnjdmhhbgaa
