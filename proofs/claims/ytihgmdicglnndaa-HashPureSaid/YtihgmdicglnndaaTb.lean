/-
  How structs and arrays of this seat's program are built, for the program logic's rules. Written by a program; no condition.
-/
import Derived.Test.YtihgmdicglnndaaTy
import Derived.Test.YtihgmdicglnndaaBld
namespace Go.Proofs.Ytihgmdicglnndaa

instance : PI Try.prog 13 [.string .empty, .int .u64 0] [(0, 1), (1, 1)] := PI.struct Try.underlying13 (fun _ => by kernel_rfl) (fun _ => by kernel_rfl)
instance : PI Try.prog 22 [.int .u8 0, .int .u8 0, .int .u8 0, .int .u8 0, .int .u8 0, .int .u8 0, .int .u8 0, .int .u8 0] [(0, 1), (1, 1), (2, 1), (3, 1), (4, 1), (5, 1), (6, 1), (7, 1)] := PI.array (size := 1) Try.underlying22 (fun _ => by kernel_rfl) (by kernel_rfl) rfl
instance : PI Try.prog 23 [.int .u8 0, .int .u8 0, .int .u8 0, .int .u8 0, .int .u8 0, .int .u8 0, .int .u8 0, .int .u8 0] [(0, 1), (1, 1), (2, 1), (3, 1), (4, 1), (5, 1), (6, 1), (7, 1)] := PI.array (size := 1) Try.underlying23 (fun _ => by kernel_rfl) (by kernel_rfl) rfl
instance : PI Try.prog 49 [.int .u64 0, .int .u64 0] [(0, 1), (1, 1)] := PI.struct Try.underlying49 (fun _ => by kernel_rfl) (fun _ => by kernel_rfl)
instance : PI Try.prog 50 [.int .u64 0, .int .u64 0] [(0, 1), (1, 1)] := PI.struct Try.underlying50 (fun _ => by kernel_rfl) (fun _ => by kernel_rfl)
instance : PI Try.prog 55 [.int .u8 0, .int .u8 0, .int .u8 0, .int .u8 0, .int .u8 0, .int .u8 0, .int .u8 0, .int .u8 0, .int .u8 0, .int .u8 0, .int .u8 0, .int .u8 0, .int .u8 0, .int .u8 0, .int .u8 0, .int .u8 0] [(0, 1), (1, 1), (2, 1), (3, 1), (4, 1), (5, 1), (6, 1), (7, 1), (8, 1), (9, 1), (10, 1), (11, 1), (12, 1), (13, 1), (14, 1), (15, 1)] := PI.array (size := 1) Try.underlying55 (fun _ => by kernel_rfl) (by kernel_rfl) rfl
end Go.Proofs.Ytihgmdicglnndaa
