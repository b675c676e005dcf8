/-
  No cell of these rows narrows 'for every input' (looked for: loops, veiled, ifaces, maps, wideKeys, modest, calm, conditions, laid).
  DERIVED. THE GIVEN ROWS OF THIS SEAT. 7 by the template 'for every input the law returns true; each argument reads behind the call as it read before'; 0 by the template 'total and deterministic' (their statements: YtocmcoknmjojcaaTotals.lean).
  GIVEN WITH THE SEED: the statements are not yours to turn. If you find one false, say at which input.
  Laid BY PROGRAM, IN A SANDBOX (cutbox-rows.mjs): the forced cells as the released guide's own fill.sh prints them over the translation f8fafed36774a12c… (all of the seat's roots in one cut). By AI agents, Wed Nov 11 2026. No macro, syntax, notation, axiom, sorry.
-/
import Derived.Test.YtocmcoknmjojcaaChecked
import GoSem.Claim
import GoSem.ClaimJoined
import GoSem.ClaimMapViews
import Derived.JoinedTies
import Derived.KernelRfl
namespace Go.Proofs.Ytocmcoknmjojcaa
/- THE CELL 'sum', in the pinned program and in every row, IS THE sha256 OF THE DUMP (.gsa) THAT YtocmcoknmjojcaaProg.lean LOADS. Nothing in Lean hashes anything: it is a label: what it is worth is what the hold of that sum in a sandbox is worth. -/
noncomputable def Try.pinned : Pinned := { name := "ytocmcoknmjojcaa", sum := "f8fafed36774a12ce46302b3f1d4e765af5537f5c16129b9f22d6c9a7238f26a", checked := Try.checked }
namespace Rows
def none {H : Type} : Left H := { results := [], args := [] }

/-- 'forkledgerlaw3.MerkleDepths': WHATEVER THE INPUT: true; the input reads as it did. -/
def merkleDepthsSpec : ChangeSpec := { name := "merkleDepths", fn := fun _ => fun
  | [d1, d2] => { results := [.lit (.bool true)], args := [d1, d2] }
  | _ => none }
def merkleDepthsRow : OpenClaim := { program := "ytocmcoknmjojcaa", sum := "f8fafed36774a12ce46302b3f1d4e765af5537f5c16129b9f22d6c9a7238f26a", func := "forkledger/forkledgerlaw3.MerkleDepths", spec := "merkleDepths", recurses := true, apart := false }
def MerkleDepthsSaid : Prop := merkleDepthsRow.holds Try.pinned (OpenSpec.ofChange merkleDepthsSpec)

/-- ITS FALSE NEIGHBOUR: 'it returns false'. Refute it at one input. -/
def merkleDepthsWrong : ChangeSpec := { name := "merkleDepths", fn := fun _ => fun
  | [d1, d2] => { results := [.lit (.bool false)], args := [d1, d2] }
  | _ => none }
def MerkleDepthsWrongFalsely : Prop := merkleDepthsRow.holds Try.pinned (OpenSpec.ofChange merkleDepthsWrong)

/-- 'forkledgerlaw3.MerkleFollows': WHATEVER THE INPUT: true; the input reads as it did. -/
def merkleFollowsSpec : ChangeSpec := { name := "merkleFollows", fn := fun _ => fun
  | [d1, d2, d3, d4, d5] => { results := [.lit (.bool true)], args := [d1, d2, d3, d4, d5] }
  | _ => none }
def merkleFollowsRow : OpenClaim := { program := "ytocmcoknmjojcaa", sum := "f8fafed36774a12ce46302b3f1d4e765af5537f5c16129b9f22d6c9a7238f26a", func := "forkledger/forkledgerlaw3.MerkleFollows", spec := "merkleFollows", recurses := true, apart := false }
def MerkleFollowsSaid : Prop := merkleFollowsRow.holds Try.pinned (OpenSpec.ofChange merkleFollowsSpec)

/-- ITS FALSE NEIGHBOUR: 'it returns false'. Refute it at one input. -/
def merkleFollowsWrong : ChangeSpec := { name := "merkleFollows", fn := fun _ => fun
  | [d1, d2, d3, d4, d5] => { results := [.lit (.bool false)], args := [d1, d2, d3, d4, d5] }
  | _ => none }
def MerkleFollowsWrongFalsely : Prop := merkleFollowsRow.holds Try.pinned (OpenSpec.ofChange merkleFollowsWrong)

/-- 'forkledgerlaw3.MerkleSplits': WHATEVER THE INPUT: true; the input reads as it did. -/
def merkleSplitsSpec : ChangeSpec := { name := "merkleSplits", fn := fun _ => fun
  | [d] => { results := [.lit (.bool true)], args := [d] }
  | _ => none }
def merkleSplitsRow : OpenClaim := { program := "ytocmcoknmjojcaa", sum := "f8fafed36774a12ce46302b3f1d4e765af5537f5c16129b9f22d6c9a7238f26a", func := "forkledger/forkledgerlaw3.MerkleSplits", spec := "merkleSplits", recurses := true, apart := false }
def MerkleSplitsSaid : Prop := merkleSplitsRow.holds Try.pinned (OpenSpec.ofChange merkleSplitsSpec)

/-- ITS FALSE NEIGHBOUR: 'it returns false'. Refute it at one input. -/
def merkleSplitsWrong : ChangeSpec := { name := "merkleSplits", fn := fun _ => fun
  | [d] => { results := [.lit (.bool false)], args := [d] }
  | _ => none }
def MerkleSplitsWrongFalsely : Prop := merkleSplitsRow.holds Try.pinned (OpenSpec.ofChange merkleSplitsWrong)

/-- 'forkledgerlaw3.MerkleBinds': WHATEVER THE INPUT: true; the input reads as it did. -/
def merkleBindsSpec : ChangeSpec := { name := "merkleBinds", fn := fun _ => fun
  | [d1, d2, d3, d4, d5, d6, d7] => { results := [.lit (.bool true)], args := [d1, d2, d3, d4, d5, d6, d7] }
  | _ => none }
def merkleBindsRow : OpenClaim := { program := "ytocmcoknmjojcaa", sum := "f8fafed36774a12ce46302b3f1d4e765af5537f5c16129b9f22d6c9a7238f26a", func := "forkledger/forkledgerlaw3.MerkleBinds", spec := "merkleBinds", recurses := true, apart := false }
def MerkleBindsSaid : Prop := merkleBindsRow.holds Try.pinned (OpenSpec.ofChange merkleBindsSpec)

/-- ITS FALSE NEIGHBOUR: 'it returns false'. Refute it at one input. -/
def merkleBindsWrong : ChangeSpec := { name := "merkleBinds", fn := fun _ => fun
  | [d1, d2, d3, d4, d5, d6, d7] => { results := [.lit (.bool false)], args := [d1, d2, d3, d4, d5, d6, d7] }
  | _ => none }
def MerkleBindsWrongFalsely : Prop := merkleBindsRow.holds Try.pinned (OpenSpec.ofChange merkleBindsWrong)

/-- 'forkledgerlaw3.MerkleRoots': WHATEVER THE INPUT: true; the input reads as it did. -/
def merkleRootsSpec : ChangeSpec := { name := "merkleRoots", fn := fun _ => fun
  | [d1, d2] => { results := [.lit (.bool true)], args := [d1, d2] }
  | _ => none }
def merkleRootsRow : OpenClaim := { program := "ytocmcoknmjojcaa", sum := "f8fafed36774a12ce46302b3f1d4e765af5537f5c16129b9f22d6c9a7238f26a", func := "forkledger/forkledgerlaw3.MerkleRoots", spec := "merkleRoots", recurses := true, apart := false }
def MerkleRootsSaid : Prop := merkleRootsRow.holds Try.pinned (OpenSpec.ofChange merkleRootsSpec)

/-- ITS FALSE NEIGHBOUR: 'it returns false'. Refute it at one input. -/
def merkleRootsWrong : ChangeSpec := { name := "merkleRoots", fn := fun _ => fun
  | [d1, d2] => { results := [.lit (.bool false)], args := [d1, d2] }
  | _ => none }
def MerkleRootsWrongFalsely : Prop := merkleRootsRow.holds Try.pinned (OpenSpec.ofChange merkleRootsWrong)

/-- 'forkledgerlaw3.MerkleIncludes': WHATEVER THE INPUT: true; the input reads as it did. -/
def merkleIncludesSpec : ChangeSpec := { name := "merkleIncludes", fn := fun _ => fun
  | [d1, d2] => { results := [.lit (.bool true)], args := [d1, d2] }
  | _ => none }
def merkleIncludesRow : OpenClaim := { program := "ytocmcoknmjojcaa", sum := "f8fafed36774a12ce46302b3f1d4e765af5537f5c16129b9f22d6c9a7238f26a", func := "forkledger/forkledgerlaw3.MerkleIncludes", spec := "merkleIncludes", recurses := true, apart := false }
def MerkleIncludesSaid : Prop := merkleIncludesRow.holds Try.pinned (OpenSpec.ofChange merkleIncludesSpec)

/-- ITS FALSE NEIGHBOUR: 'it returns false'. Refute it at one input. -/
def merkleIncludesWrong : ChangeSpec := { name := "merkleIncludes", fn := fun _ => fun
  | [d1, d2] => { results := [.lit (.bool false)], args := [d1, d2] }
  | _ => none }
def MerkleIncludesWrongFalsely : Prop := merkleIncludesRow.holds Try.pinned (OpenSpec.ofChange merkleIncludesWrong)

/-- 'forkledgerlaw3.MerkleShares': WHATEVER THE INPUT: true; the input reads as it did. -/
def merkleSharesSpec : ChangeSpec := { name := "merkleShares", fn := fun _ => fun
  | [d1, d2, d3] => { results := [.lit (.bool true)], args := [d1, d2, d3] }
  | _ => none }
def merkleSharesRow : OpenClaim := { program := "ytocmcoknmjojcaa", sum := "f8fafed36774a12ce46302b3f1d4e765af5537f5c16129b9f22d6c9a7238f26a", func := "forkledger/forkledgerlaw3.MerkleShares", spec := "merkleShares", recurses := true, apart := false }
def MerkleSharesSaid : Prop := merkleSharesRow.holds Try.pinned (OpenSpec.ofChange merkleSharesSpec)

/-- ITS FALSE NEIGHBOUR: 'it returns false'. Refute it at one input. -/
def merkleSharesWrong : ChangeSpec := { name := "merkleShares", fn := fun _ => fun
  | [d1, d2, d3] => { results := [.lit (.bool false)], args := [d1, d2, d3] }
  | _ => none }
def MerkleSharesWrongFalsely : Prop := merkleSharesRow.holds Try.pinned (OpenSpec.ofChange merkleSharesWrong)

/- THE SECOND FORM. 'bulk': how many values and letters a reading holds, each counted each time it is reached (what is shared counts as often as it is met; a slice's spare places count too). A statement '..UptoSaid' is the law's where the arguments, and the package variables that the reading takes, are together of bulk at most 1048576: NARROWER than '..Said'. Prove '..Said' where nothing that the law and all that it calls make is longer than what came in: it says more and counts as full. Else prove '..UptoSaid'. A law counts once. -/
mutual
def uptoBulk {H : Type} : DataW H → Nat
  | .lit (.string bytes) => bytes.length + 1
  | .lit _ => 1
  | .nil => 1
  | .ptr d => uptoBulk d + 1
  | .slice elems spare => uptoBulkAll elems + uptoBulkAll spare + 1
  | .agg parts => uptoBulkAll parts + 1
  | .iface _ d => uptoBulk d + 1
  | .map entries => uptoBulkEntries entries + 1
  | .held _ => 1
def uptoBulkAll {H : Type} : List (DataW H) → Nat
  | [] => 0
  | d :: r => uptoBulk d + uptoBulkAll r
def uptoBulkEntries {H : Type} : List (Lit × DataW H) → Nat
  | [] => 0
  | x :: r => uptoBulkEntry x + uptoBulkEntries r
def uptoBulkEntry {H : Type} : Lit × DataW H → Nat
  | (.string bytes, d) => bytes.length + uptoBulk d + 1
  | (_, d) => uptoBulk d + 1
 end
def uptoSmall : (H : Type) → List (DataW H) → Bool := fun _ ds => decide (uptoBulkAll ds ≤ 1048576)
def OpenSpec.upto (s : _root_.Go.ChangeSpec) : _root_.Go.OpenSpec := { _root_.Go.OpenSpec.ofChange s with cond := some uptoSmall }

/-- 'forkledgerlaw3.MerkleDepths', WHERE WHAT IT READS IS OF BULK AT MOST 1048576: true; the input reads as it did. -/
def merkleDepthsUptoRow : OpenClaim := { program := "ytocmcoknmjojcaa", sum := "f8fafed36774a12ce46302b3f1d4e765af5537f5c16129b9f22d6c9a7238f26a", func := "forkledger/forkledgerlaw3.MerkleDepths", spec := "merkleDepths", recurses := true, apart := false, narrowed := true }
def MerkleDepthsUptoSaid : Prop := merkleDepthsUptoRow.holds Try.pinned (OpenSpec.upto merkleDepthsSpec)

/-- 'forkledgerlaw3.MerkleFollows', WHERE WHAT IT READS IS OF BULK AT MOST 1048576: true; the input reads as it did. -/
def merkleFollowsUptoRow : OpenClaim := { program := "ytocmcoknmjojcaa", sum := "f8fafed36774a12ce46302b3f1d4e765af5537f5c16129b9f22d6c9a7238f26a", func := "forkledger/forkledgerlaw3.MerkleFollows", spec := "merkleFollows", recurses := true, apart := false, narrowed := true }
def MerkleFollowsUptoSaid : Prop := merkleFollowsUptoRow.holds Try.pinned (OpenSpec.upto merkleFollowsSpec)

/-- 'forkledgerlaw3.MerkleSplits', WHERE WHAT IT READS IS OF BULK AT MOST 1048576: true; the input reads as it did. -/
def merkleSplitsUptoRow : OpenClaim := { program := "ytocmcoknmjojcaa", sum := "f8fafed36774a12ce46302b3f1d4e765af5537f5c16129b9f22d6c9a7238f26a", func := "forkledger/forkledgerlaw3.MerkleSplits", spec := "merkleSplits", recurses := true, apart := false, narrowed := true }
def MerkleSplitsUptoSaid : Prop := merkleSplitsUptoRow.holds Try.pinned (OpenSpec.upto merkleSplitsSpec)

/-- 'forkledgerlaw3.MerkleBinds', WHERE WHAT IT READS IS OF BULK AT MOST 1048576: true; the input reads as it did. -/
def merkleBindsUptoRow : OpenClaim := { program := "ytocmcoknmjojcaa", sum := "f8fafed36774a12ce46302b3f1d4e765af5537f5c16129b9f22d6c9a7238f26a", func := "forkledger/forkledgerlaw3.MerkleBinds", spec := "merkleBinds", recurses := true, apart := false, narrowed := true }
def MerkleBindsUptoSaid : Prop := merkleBindsUptoRow.holds Try.pinned (OpenSpec.upto merkleBindsSpec)

/-- 'forkledgerlaw3.MerkleRoots', WHERE WHAT IT READS IS OF BULK AT MOST 1048576: true; the input reads as it did. -/
def merkleRootsUptoRow : OpenClaim := { program := "ytocmcoknmjojcaa", sum := "f8fafed36774a12ce46302b3f1d4e765af5537f5c16129b9f22d6c9a7238f26a", func := "forkledger/forkledgerlaw3.MerkleRoots", spec := "merkleRoots", recurses := true, apart := false, narrowed := true }
def MerkleRootsUptoSaid : Prop := merkleRootsUptoRow.holds Try.pinned (OpenSpec.upto merkleRootsSpec)

/-- 'forkledgerlaw3.MerkleIncludes', WHERE WHAT IT READS IS OF BULK AT MOST 1048576: true; the input reads as it did. -/
def merkleIncludesUptoRow : OpenClaim := { program := "ytocmcoknmjojcaa", sum := "f8fafed36774a12ce46302b3f1d4e765af5537f5c16129b9f22d6c9a7238f26a", func := "forkledger/forkledgerlaw3.MerkleIncludes", spec := "merkleIncludes", recurses := true, apart := false, narrowed := true }
def MerkleIncludesUptoSaid : Prop := merkleIncludesUptoRow.holds Try.pinned (OpenSpec.upto merkleIncludesSpec)

/-- 'forkledgerlaw3.MerkleShares', WHERE WHAT IT READS IS OF BULK AT MOST 1048576: true; the input reads as it did. -/
def merkleSharesUptoRow : OpenClaim := { program := "ytocmcoknmjojcaa", sum := "f8fafed36774a12ce46302b3f1d4e765af5537f5c16129b9f22d6c9a7238f26a", func := "forkledger/forkledgerlaw3.MerkleShares", spec := "merkleShares", recurses := true, apart := false, narrowed := true }
def MerkleSharesUptoSaid : Prop := merkleSharesUptoRow.holds Try.pinned (OpenSpec.upto merkleSharesSpec)

end Rows
end Go.Proofs.Ytocmcoknmjojcaa
