/-
  How structs and arrays of this seat's program are built, for the program logic's rules. Written by a program; no condition.
-/
import Derived.Test.YtocmcoknmjojcaaTy
import Derived.Test.YtocmcoknmjojcaaBld
namespace Go.Proofs.Ytocmcoknmjojcaa

instance : PI Try.prog 13 [.string .empty, .int .u64 0] [(0, 1), (1, 1)] := PI.struct Try.underlying13 (fun _ => by kernel_rfl) (fun _ => by kernel_rfl)
instance : PI Try.prog 25 [.int .u8 0, .int .u8 0, .int .u8 0, .int .u8 0, .int .u8 0, .int .u8 0, .int .u8 0, .int .u8 0] [(0, 1), (1, 1), (2, 1), (3, 1), (4, 1), (5, 1), (6, 1), (7, 1)] := PI.array (size := 1) Try.underlying25 (fun _ => by kernel_rfl) (by kernel_rfl) rfl
instance : PI Try.prog 26 [.int .u8 0, .int .u8 0, .int .u8 0, .int .u8 0, .int .u8 0, .int .u8 0, .int .u8 0, .int .u8 0] [(0, 1), (1, 1), (2, 1), (3, 1), (4, 1), (5, 1), (6, 1), (7, 1)] := PI.array (size := 1) Try.underlying26 (fun _ => by kernel_rfl) (by kernel_rfl) rfl
instance : PI Try.prog 37 [.string .empty, .int .u8 0, .int .u8 0, .int .u8 0, .int .u8 0, .int .u8 0, .int .u8 0, .int .u8 0, .int .u8 0] [(0, 1), (1, 8)] := PI.struct Try.underlying37 (fun _ => by kernel_rfl) (fun _ => by kernel_rfl)
instance : PI Try.prog 38 [.string .empty, .int .u8 0, .int .u8 0, .int .u8 0, .int .u8 0, .int .u8 0, .int .u8 0, .int .u8 0, .int .u8 0] [(0, 1), (1, 8)] := PI.struct Try.underlying38 (fun _ => by kernel_rfl) (fun _ => by kernel_rfl)
instance : PI Try.prog 51 [.int .u8 0, .int .u8 0, .int .u8 0, .int .u8 0, .int .u8 0, .int .u8 0, .int .u8 0, .int .u8 0, .int .u8 0, .int .u8 0, .int .u8 0, .int .u8 0, .int .u8 0, .int .u8 0, .int .u8 0, .int .u8 0] [(0, 1), (1, 1), (2, 1), (3, 1), (4, 1), (5, 1), (6, 1), (7, 1), (8, 1), (9, 1), (10, 1), (11, 1), (12, 1), (13, 1), (14, 1), (15, 1)] := PI.array (size := 1) Try.underlying51 (fun _ => by kernel_rfl) (by kernel_rfl) rfl
instance : PI Try.prog 56 [.int .u64 0, .int .u64 0] [(0, 1), (1, 1)] := PI.struct Try.underlying56 (fun _ => by kernel_rfl) (fun _ => by kernel_rfl)
instance : PI Try.prog 57 [.int .u64 0, .int .u64 0] [(0, 1), (1, 1)] := PI.struct Try.underlying57 (fun _ => by kernel_rfl) (fun _ => by kernel_rfl)
end Go.Proofs.Ytocmcoknmjojcaa
