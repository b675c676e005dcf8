/-
  No cell of these rows narrows 'for every input' (looked for: loops, veiled, ifaces, maps, wideKeys, modest, calm, conditions, laid).
  DERIVED. THE GIVEN ROWS OF THIS SEAT. 5 by the template 'for every input the law returns true; each argument reads behind the call as it read before'; 0 by the template 'total and deterministic' (their statements: YtkkeeokeihkagaaTotals.lean).
  GIVEN WITH THE SEED: the statements are not yours to turn. If you find one false, say at which input.
  Laid BY PROGRAM, IN A SANDBOX (cutbox-rows.mjs): the forced cells as the released guide's own fill.sh prints them over the translation 08a30076d562d3ec… (all of the seat's roots in one cut). By AI agents, Wed Nov 11 2026. No macro, syntax, notation, axiom, sorry.
-/
import Derived.Test.YtkkeeokeihkagaaChecked
import GoSem.Claim
import GoSem.ClaimJoined
import GoSem.ClaimMapViews
import Derived.JoinedTies
import Derived.KernelRfl
namespace Go.Proofs.Ytkkeeokeihkagaa
/- THE CELL 'sum', in the pinned program and in every row, IS THE sha256 OF THE DUMP (.gsa) THAT YtkkeeokeihkagaaProg.lean LOADS. Nothing in Lean hashes anything: it is a label: what it is worth is what the hold of that sum in a sandbox is worth. -/
noncomputable def Try.pinned : Pinned := { name := "ytkkeeokeihkagaa", sum := "08a30076d562d3ec8b382de566a6061c80e997740c86df35a7634625c3b957a8", checked := Try.checked }
namespace Rows
def none {H : Type} : Left H := { results := [], args := [] }

/-- 'forkledgerlaw21.StateCompare': WHATEVER THE INPUT: true; the input reads as it did. -/
def stateCompareSpec : ChangeSpec := { name := "stateCompare", fn := fun _ => fun
  | [d1, d2, d3] => { results := [.lit (.bool true)], args := [d1, d2, d3] }
  | _ => none }
def stateCompareRow : OpenClaim := { program := "ytkkeeokeihkagaa", sum := "08a30076d562d3ec8b382de566a6061c80e997740c86df35a7634625c3b957a8", func := "forkledger/forkledgerlaw21.StateCompare", spec := "stateCompare", inPlace := ["slices.overlaps[forkledger/api.Delta]"], unfollowed := true, recurses := true, apart := false }
def StateCompareSaid : Prop := stateCompareRow.holds Try.pinned (OpenSpec.ofChange stateCompareSpec)

/-- ITS FALSE NEIGHBOUR: 'it returns false'. Refute it at one input. -/
def stateCompareWrong : ChangeSpec := { name := "stateCompare", fn := fun _ => fun
  | [d1, d2, d3] => { results := [.lit (.bool false)], args := [d1, d2, d3] }
  | _ => none }
def StateCompareWrongFalsely : Prop := stateCompareRow.holds Try.pinned (OpenSpec.ofChange stateCompareWrong)

/-- 'forkledgerlaw21.StateAdd': WHATEVER THE INPUT: true; the input reads as it did. -/
def stateAddSpec : ChangeSpec := { name := "stateAdd", fn := fun _ => fun
  | [d1, d2, d3] => { results := [.lit (.bool true)], args := [d1, d2, d3] }
  | _ => none }
def stateAddRow : OpenClaim := { program := "ytkkeeokeihkagaa", sum := "08a30076d562d3ec8b382de566a6061c80e997740c86df35a7634625c3b957a8", func := "forkledger/forkledgerlaw21.StateAdd", spec := "stateAdd", inPlace := ["slices.overlaps[forkledger/api.Delta]"], unfollowed := true, recurses := true, apart := false }
def StateAddSaid : Prop := stateAddRow.holds Try.pinned (OpenSpec.ofChange stateAddSpec)

/-- ITS FALSE NEIGHBOUR: 'it returns false'. Refute it at one input. -/
def stateAddWrong : ChangeSpec := { name := "stateAdd", fn := fun _ => fun
  | [d1, d2, d3] => { results := [.lit (.bool false)], args := [d1, d2, d3] }
  | _ => none }
def StateAddWrongFalsely : Prop := stateAddRow.holds Try.pinned (OpenSpec.ofChange stateAddWrong)

/-- 'forkledgerlaw21.StateSums': WHATEVER THE INPUT: true; the input reads as it did. -/
def stateSumsSpec : ChangeSpec := { name := "stateSums", fn := fun _ => fun
  | [d1, d2] => { results := [.lit (.bool true)], args := [d1, d2] }
  | _ => none }
def stateSumsRow : OpenClaim := { program := "ytkkeeokeihkagaa", sum := "08a30076d562d3ec8b382de566a6061c80e997740c86df35a7634625c3b957a8", func := "forkledger/forkledgerlaw21.StateSums", spec := "stateSums", inPlace := ["slices.overlaps[forkledger/api.Delta]"], unfollowed := true, recurses := true, apart := false }
def StateSumsSaid : Prop := stateSumsRow.holds Try.pinned (OpenSpec.ofChange stateSumsSpec)

/-- ITS FALSE NEIGHBOUR: 'it returns false'. Refute it at one input. -/
def stateSumsWrong : ChangeSpec := { name := "stateSums", fn := fun _ => fun
  | [d1, d2] => { results := [.lit (.bool false)], args := [d1, d2] }
  | _ => none }
def StateSumsWrongFalsely : Prop := stateSumsRow.holds Try.pinned (OpenSpec.ofChange stateSumsWrong)

/-- 'forkledgerlaw21.StateCheck': WHATEVER THE INPUT: true; the input reads as it did. -/
def stateCheckSpec : ChangeSpec := { name := "stateCheck", fn := fun _ => fun
  | [d1, d2, d3, d4] => { results := [.lit (.bool true)], args := [d1, d2, d3, d4] }
  | _ => none }
def stateCheckRow : OpenClaim := { program := "ytkkeeokeihkagaa", sum := "08a30076d562d3ec8b382de566a6061c80e997740c86df35a7634625c3b957a8", func := "forkledger/forkledgerlaw21.StateCheck", spec := "stateCheck", inPlace := ["slices.overlaps[forkledger/api.Delta]"], unfollowed := true, recurses := true, apart := false }
def StateCheckSaid : Prop := stateCheckRow.holds Try.pinned (OpenSpec.ofChange stateCheckSpec)

/-- ITS FALSE NEIGHBOUR: 'it returns false'. Refute it at one input. -/
def stateCheckWrong : ChangeSpec := { name := "stateCheck", fn := fun _ => fun
  | [d1, d2, d3, d4] => { results := [.lit (.bool false)], args := [d1, d2, d3, d4] }
  | _ => none }
def StateCheckWrongFalsely : Prop := stateCheckRow.holds Try.pinned (OpenSpec.ofChange stateCheckWrong)

/-- 'forkledgerlaw21.StateMarks': WHATEVER THE INPUT: true; the input reads as it did. -/
def stateMarksSpec : ChangeSpec := { name := "stateMarks", fn := fun _ => fun
  | [d1, d2, d3] => { results := [.lit (.bool true)], args := [d1, d2, d3] }
  | _ => none }
def stateMarksRow : OpenClaim := { program := "ytkkeeokeihkagaa", sum := "08a30076d562d3ec8b382de566a6061c80e997740c86df35a7634625c3b957a8", func := "forkledger/forkledgerlaw21.StateMarks", spec := "stateMarks", inPlace := ["slices.overlaps[forkledger/api.Delta]", "slices.overlaps[forkledger/api.Name]"], unfollowed := true, recurses := true, apart := false }
def StateMarksSaid : Prop := stateMarksRow.holds Try.pinned (OpenSpec.ofChange stateMarksSpec)

/-- ITS FALSE NEIGHBOUR: 'it returns false'. Refute it at one input. -/
def stateMarksWrong : ChangeSpec := { name := "stateMarks", fn := fun _ => fun
  | [d1, d2, d3] => { results := [.lit (.bool false)], args := [d1, d2, d3] }
  | _ => none }
def StateMarksWrongFalsely : Prop := stateMarksRow.holds Try.pinned (OpenSpec.ofChange stateMarksWrong)

/- THE SECOND FORM. 'bulk': how many values and letters a reading holds, each counted each time it is reached (what is shared counts as often as it is met; a slice's spare places count too). A statement '..UptoSaid' is the law's where the arguments, and the package variables that the reading takes, are together of bulk at most 1048576: NARROWER than '..Said'. Prove '..Said' where nothing that the law and all that it calls make is longer than what came in: it says more and counts as full. Else prove '..UptoSaid'. A law counts once. -/
mutual
def uptoBulk {H : Type} : DataW H → Nat
  | .lit (.string bytes) => bytes.length + 1
  | .lit _ => 1
  | .nil => 1
  | .ptr d => uptoBulk d + 1
  | .slice elems spare => uptoBulkAll elems + uptoBulkAll spare + 1
  | .agg parts => uptoBulkAll parts + 1
  | .iface _ d => uptoBulk d + 1
  | .map entries => uptoBulkEntries entries + 1
  | .held _ => 1
def uptoBulkAll {H : Type} : List (DataW H) → Nat
  | [] => 0
  | d :: r => uptoBulk d + uptoBulkAll r
def uptoBulkEntries {H : Type} : List (Lit × DataW H) → Nat
  | [] => 0
  | x :: r => uptoBulkEntry x + uptoBulkEntries r
def uptoBulkEntry {H : Type} : Lit × DataW H → Nat
  | (.string bytes, d) => bytes.length + uptoBulk d + 1
  | (_, d) => uptoBulk d + 1
 end
def uptoSmall : (H : Type) → List (DataW H) → Bool := fun _ ds => decide (uptoBulkAll ds ≤ 1048576)
def OpenSpec.upto (s : _root_.Go.ChangeSpec) : _root_.Go.OpenSpec := { _root_.Go.OpenSpec.ofChange s with cond := some uptoSmall }

/-- 'forkledgerlaw21.StateCompare', WHERE WHAT IT READS IS OF BULK AT MOST 1048576: true; the input reads as it did. -/
def stateCompareUptoRow : OpenClaim := { program := "ytkkeeokeihkagaa", sum := "08a30076d562d3ec8b382de566a6061c80e997740c86df35a7634625c3b957a8", func := "forkledger/forkledgerlaw21.StateCompare", spec := "stateCompare", inPlace := ["slices.overlaps[forkledger/api.Delta]"], unfollowed := true, recurses := true, apart := false, narrowed := true }
def StateCompareUptoSaid : Prop := stateCompareUptoRow.holds Try.pinned (OpenSpec.upto stateCompareSpec)

/-- 'forkledgerlaw21.StateAdd', WHERE WHAT IT READS IS OF BULK AT MOST 1048576: true; the input reads as it did. -/
def stateAddUptoRow : OpenClaim := { program := "ytkkeeokeihkagaa", sum := "08a30076d562d3ec8b382de566a6061c80e997740c86df35a7634625c3b957a8", func := "forkledger/forkledgerlaw21.StateAdd", spec := "stateAdd", inPlace := ["slices.overlaps[forkledger/api.Delta]"], unfollowed := true, recurses := true, apart := false, narrowed := true }
def StateAddUptoSaid : Prop := stateAddUptoRow.holds Try.pinned (OpenSpec.upto stateAddSpec)

/-- 'forkledgerlaw21.StateSums', WHERE WHAT IT READS IS OF BULK AT MOST 1048576: true; the input reads as it did. -/
def stateSumsUptoRow : OpenClaim := { program := "ytkkeeokeihkagaa", sum := "08a30076d562d3ec8b382de566a6061c80e997740c86df35a7634625c3b957a8", func := "forkledger/forkledgerlaw21.StateSums", spec := "stateSums", inPlace := ["slices.overlaps[forkledger/api.Delta]"], unfollowed := true, recurses := true, apart := false, narrowed := true }
def StateSumsUptoSaid : Prop := stateSumsUptoRow.holds Try.pinned (OpenSpec.upto stateSumsSpec)

/-- 'forkledgerlaw21.StateCheck', WHERE WHAT IT READS IS OF BULK AT MOST 1048576: true; the input reads as it did. -/
def stateCheckUptoRow : OpenClaim := { program := "ytkkeeokeihkagaa", sum := "08a30076d562d3ec8b382de566a6061c80e997740c86df35a7634625c3b957a8", func := "forkledger/forkledgerlaw21.StateCheck", spec := "stateCheck", inPlace := ["slices.overlaps[forkledger/api.Delta]"], unfollowed := true, recurses := true, apart := false, narrowed := true }
def StateCheckUptoSaid : Prop := stateCheckUptoRow.holds Try.pinned (OpenSpec.upto stateCheckSpec)

/-- 'forkledgerlaw21.StateMarks', WHERE WHAT IT READS IS OF BULK AT MOST 1048576: true; the input reads as it did. -/
def stateMarksUptoRow : OpenClaim := { program := "ytkkeeokeihkagaa", sum := "08a30076d562d3ec8b382de566a6061c80e997740c86df35a7634625c3b957a8", func := "forkledger/forkledgerlaw21.StateMarks", spec := "stateMarks", inPlace := ["slices.overlaps[forkledger/api.Delta]", "slices.overlaps[forkledger/api.Name]"], unfollowed := true, recurses := true, apart := false, narrowed := true }
def StateMarksUptoSaid : Prop := stateMarksUptoRow.holds Try.pinned (OpenSpec.upto stateMarksSpec)

end Rows
end Go.Proofs.Ytkkeeokeihkagaa
