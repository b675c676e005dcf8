/-
  How structs and arrays of this seat's program are built, for the program logic's rules. Written by a program; no condition.
-/
import Derived.Test.YtnghcfjejgdnlaaTy
import Derived.Test.YtnghcfjejgdnlaaBld
namespace Go.Proofs.Ytnghcfjejgdnlaa

instance : PI Try.prog 13 [.string .empty, .int .u64 0] [(0, 1), (1, 1)] := PI.struct Try.underlying13 (fun _ => by kernel_rfl) (fun _ => by kernel_rfl)
instance : PI Try.prog 26 [.int .i64 0, .int .i64 0, .int .u64 0, .slice none 0 0, .slice none 0 0] [(0, 1), (1, 1), (2, 1), (3, 1), (4, 1)] := PI.struct Try.underlying26 (fun _ => by kernel_rfl) (fun _ => by kernel_rfl)
instance : PI Try.prog 27 [.int .i64 0, .int .i64 0, .int .u64 0, .slice none 0 0, .slice none 0 0] [(0, 1), (1, 1), (2, 1), (3, 1), (4, 1)] := PI.struct Try.underlying27 (fun _ => by kernel_rfl) (fun _ => by kernel_rfl)
instance : PI Try.prog 39 [.slice none 0 0, .slice none 0 0, .slice none 0 0] [(0, 1), (1, 1), (2, 1)] := PI.array (size := 1) Try.underlying39 (fun _ => by kernel_rfl) (by kernel_rfl) rfl
instance : PI Try.prog 52 [.int .u8 0, .int .u8 0, .int .u8 0, .int .u8 0, .int .u8 0, .int .u8 0, .int .u8 0, .int .u8 0] [(0, 1), (1, 1), (2, 1), (3, 1), (4, 1), (5, 1), (6, 1), (7, 1)] := PI.array (size := 1) Try.underlying52 (fun _ => by kernel_rfl) (by kernel_rfl) rfl
instance : PI Try.prog 53 [.int .u8 0, .int .u8 0, .int .u8 0, .int .u8 0, .int .u8 0, .int .u8 0, .int .u8 0, .int .u8 0] [(0, 1), (1, 1), (2, 1), (3, 1), (4, 1), (5, 1), (6, 1), (7, 1)] := PI.array (size := 1) Try.underlying53 (fun _ => by kernel_rfl) (by kernel_rfl) rfl
end Go.Proofs.Ytnghcfjejgdnlaa
