/-
  No cell of these rows narrows 'for every input' (looked for: loops, veiled, ifaces, maps, wideKeys, modest, calm, conditions, laid).
  DERIVED. THE GIVEN ROWS OF THIS SEAT. 5 by the template 'for every input the law returns true; each argument reads behind the call as it read before'; 0 by the template 'total and deterministic' (their statements: YtneeclacmhhblaaGreatTotals.lean).
  GIVEN WITH THE SEED: the statements are not yours to turn. If you find one false, say at which input.
  Laid BY PROGRAM, IN A SANDBOX (cutbox-rows.mjs): the forced cells as the released guide's own fill.sh prints them over the translation 9dff06b4dcbe1a9a… (all of the seat's roots in one cut). By AI agents, Wed Nov 11 2026. No macro, syntax, notation, axiom, sorry.
-/
import Derived.Test.YtneeclacmhhblaaGreatChecked
import GoSem.Claim
import GoSem.ClaimJoined
import GoSem.ClaimMapViews
import Derived.JoinedTies
import Derived.KernelRfl
namespace Go.Proofs.YtneeclacmhhblaaGreat
/- THE CELL 'sum', in the pinned program and in every row, IS THE sha256 OF THE DUMP (.gsa) THAT YtneeclacmhhblaaGreatProg.lean LOADS. Nothing in Lean hashes anything: it is a label: what it is worth is what the hold of that sum in a sandbox is worth. -/
noncomputable def Tryz.pinned : Pinned := { name := "ytneeclacmhhblaagreat", sum := "9dff06b4dcbe1a9a7d7160852d31d894b7f9da279a98ed2817280bbf885a4915", checked := Tryz.checked }
namespace Rows
def none {H : Type} : Left H := { results := [], args := [] }

/-- 'forkledgerlaw26.SealValue': WHATEVER THE INPUT: true; the input reads as it did. -/
def sealValueSpec : ChangeSpec := { name := "sealValue", fn := fun _ => fun
  | [d] => { results := [.lit (.bool true)], args := [d] }
  | _ => none }
def sealValueRow : OpenClaim := { program := "ytneeclacmhhblaagreat", sum := "9dff06b4dcbe1a9a7d7160852d31d894b7f9da279a98ed2817280bbf885a4915", func := "forkledger/forkledgerlaw26.SealValue", spec := "sealValue", unfollowed := true, recurses := true, plainKeys := false, apart := false }
def SealValueSaid : Prop := sealValueRow.holds Tryz.pinned (OpenSpec.ofChange sealValueSpec)

/-- ITS FALSE NEIGHBOUR: 'it returns false'. Refute it at one input. -/
def sealValueWrong : ChangeSpec := { name := "sealValue", fn := fun _ => fun
  | [d] => { results := [.lit (.bool false)], args := [d] }
  | _ => none }
def SealValueWrongFalsely : Prop := sealValueRow.holds Tryz.pinned (OpenSpec.ofChange sealValueWrong)

/-- 'forkledgerlaw26.SealRaw': WHATEVER THE INPUT: true; the input reads as it did. -/
def sealRawSpec : ChangeSpec := { name := "sealRaw", fn := fun _ => fun
  | [d1, d2, d3, d4] => { results := [.lit (.bool true)], args := [d1, d2, d3, d4] }
  | _ => none }
def sealRawRow : OpenClaim := { program := "ytneeclacmhhblaagreat", sum := "9dff06b4dcbe1a9a7d7160852d31d894b7f9da279a98ed2817280bbf885a4915", func := "forkledger/forkledgerlaw26.SealRaw", spec := "sealRaw", unfollowed := true, recurses := true, plainKeys := false, apart := false }
def SealRawSaid : Prop := sealRawRow.holds Tryz.pinned (OpenSpec.ofChange sealRawSpec)

/-- ITS FALSE NEIGHBOUR: 'it returns false'. Refute it at one input. -/
def sealRawWrong : ChangeSpec := { name := "sealRaw", fn := fun _ => fun
  | [d1, d2, d3, d4] => { results := [.lit (.bool false)], args := [d1, d2, d3, d4] }
  | _ => none }
def SealRawWrongFalsely : Prop := sealRawRow.holds Tryz.pinned (OpenSpec.ofChange sealRawWrong)

/-- 'forkledgerlaw27.CoverOutflow': WHATEVER THE INPUT: true; the input reads as it did. -/
def coverOutflowSpec : ChangeSpec := { name := "coverOutflow", fn := fun _ => fun
  | [d] => { results := [.lit (.bool true)], args := [d] }
  | _ => none }
def coverOutflowRow : OpenClaim := { program := "ytneeclacmhhblaagreat", sum := "9dff06b4dcbe1a9a7d7160852d31d894b7f9da279a98ed2817280bbf885a4915", func := "forkledger/forkledgerlaw27.CoverOutflow", spec := "coverOutflow", recurses := true, plainKeys := false, apart := false }
def CoverOutflowSaid : Prop := coverOutflowRow.holds Tryz.pinned (OpenSpec.ofChange coverOutflowSpec)

/-- ITS FALSE NEIGHBOUR: 'it returns false'. Refute it at one input. -/
def coverOutflowWrong : ChangeSpec := { name := "coverOutflow", fn := fun _ => fun
  | [d] => { results := [.lit (.bool false)], args := [d] }
  | _ => none }
def CoverOutflowWrongFalsely : Prop := coverOutflowRow.holds Tryz.pinned (OpenSpec.ofChange coverOutflowWrong)

/-- 'forkledgerlaw27.CoverLimit': WHATEVER THE INPUT: true; the input reads as it did. -/
def coverLimitSpec : ChangeSpec := { name := "coverLimit", fn := fun _ => fun
  | [d1, d2] => { results := [.lit (.bool true)], args := [d1, d2] }
  | _ => none }
def coverLimitRow : OpenClaim := { program := "ytneeclacmhhblaagreat", sum := "9dff06b4dcbe1a9a7d7160852d31d894b7f9da279a98ed2817280bbf885a4915", func := "forkledger/forkledgerlaw27.CoverLimit", spec := "coverLimit", recurses := true, plainKeys := false, apart := false }
def CoverLimitSaid : Prop := coverLimitRow.holds Tryz.pinned (OpenSpec.ofChange coverLimitSpec)

/-- ITS FALSE NEIGHBOUR: 'it returns false'. Refute it at one input. -/
def coverLimitWrong : ChangeSpec := { name := "coverLimit", fn := fun _ => fun
  | [d1, d2] => { results := [.lit (.bool false)], args := [d1, d2] }
  | _ => none }
def CoverLimitWrongFalsely : Prop := coverLimitRow.holds Tryz.pinned (OpenSpec.ofChange coverLimitWrong)

/-- 'forkledgerlaw27.CoverBound': WHATEVER THE INPUT: true; the input reads as it did. -/
def coverBoundSpec : ChangeSpec := { name := "coverBound", fn := fun _ => fun
  | [d1, d2] => { results := [.lit (.bool true)], args := [d1, d2] }
  | _ => none }
def coverBoundRow : OpenClaim := { program := "ytneeclacmhhblaagreat", sum := "9dff06b4dcbe1a9a7d7160852d31d894b7f9da279a98ed2817280bbf885a4915", func := "forkledger/forkledgerlaw27.CoverBound", spec := "coverBound", recurses := true, plainKeys := false, apart := false }
def CoverBoundSaid : Prop := coverBoundRow.holds Tryz.pinned (OpenSpec.ofChange coverBoundSpec)

/-- ITS FALSE NEIGHBOUR: 'it returns false'. Refute it at one input. -/
def coverBoundWrong : ChangeSpec := { name := "coverBound", fn := fun _ => fun
  | [d1, d2] => { results := [.lit (.bool false)], args := [d1, d2] }
  | _ => none }
def CoverBoundWrongFalsely : Prop := coverBoundRow.holds Tryz.pinned (OpenSpec.ofChange coverBoundWrong)

/- THE SECOND FORM. 'bulk': how many values and letters a reading holds, each counted each time it is reached (what is shared counts as often as it is met; a slice's spare places count too). A statement '..UptoSaid' is the law's where the arguments, and the package variables that the reading takes, are together of bulk at most 1048576: NARROWER than '..Said'. Prove '..Said' where nothing that the law and all that it calls make is longer than what came in: it says more and counts as full. Else prove '..UptoSaid'. A law counts once. -/
mutual
def uptoBulk {H : Type} : DataW H → Nat
  | .lit (.string bytes) => bytes.length + 1
  | .lit _ => 1
  | .nil => 1
  | .ptr d => uptoBulk d + 1
  | .slice elems spare => uptoBulkAll elems + uptoBulkAll spare + 1
  | .agg parts => uptoBulkAll parts + 1
  | .iface _ d => uptoBulk d + 1
  | .map entries => uptoBulkEntries entries + 1
  | .held _ => 1
def uptoBulkAll {H : Type} : List (DataW H) → Nat
  | [] => 0
  | d :: r => uptoBulk d + uptoBulkAll r
def uptoBulkEntries {H : Type} : List (Lit × DataW H) → Nat
  | [] => 0
  | x :: r => uptoBulkEntry x + uptoBulkEntries r
def uptoBulkEntry {H : Type} : Lit × DataW H → Nat
  | (.string bytes, d) => bytes.length + uptoBulk d + 1
  | (_, d) => uptoBulk d + 1
 end
def uptoSmall : (H : Type) → List (DataW H) → Bool := fun _ ds => decide (uptoBulkAll ds ≤ 1048576)
def OpenSpec.upto (s : _root_.Go.ChangeSpec) : _root_.Go.OpenSpec := { _root_.Go.OpenSpec.ofChange s with cond := some uptoSmall }

/-- 'forkledgerlaw26.SealValue', WHERE WHAT IT READS IS OF BULK AT MOST 1048576: true; the input reads as it did. -/
def sealValueUptoRow : OpenClaim := { program := "ytneeclacmhhblaagreat", sum := "9dff06b4dcbe1a9a7d7160852d31d894b7f9da279a98ed2817280bbf885a4915", func := "forkledger/forkledgerlaw26.SealValue", spec := "sealValue", unfollowed := true, recurses := true, plainKeys := false, apart := false, narrowed := true }
def SealValueUptoSaid : Prop := sealValueUptoRow.holds Tryz.pinned (OpenSpec.upto sealValueSpec)

/-- 'forkledgerlaw26.SealRaw', WHERE WHAT IT READS IS OF BULK AT MOST 1048576: true; the input reads as it did. -/
def sealRawUptoRow : OpenClaim := { program := "ytneeclacmhhblaagreat", sum := "9dff06b4dcbe1a9a7d7160852d31d894b7f9da279a98ed2817280bbf885a4915", func := "forkledger/forkledgerlaw26.SealRaw", spec := "sealRaw", unfollowed := true, recurses := true, plainKeys := false, apart := false, narrowed := true }
def SealRawUptoSaid : Prop := sealRawUptoRow.holds Tryz.pinned (OpenSpec.upto sealRawSpec)

/-- 'forkledgerlaw27.CoverOutflow', WHERE WHAT IT READS IS OF BULK AT MOST 1048576: true; the input reads as it did. -/
def coverOutflowUptoRow : OpenClaim := { program := "ytneeclacmhhblaagreat", sum := "9dff06b4dcbe1a9a7d7160852d31d894b7f9da279a98ed2817280bbf885a4915", func := "forkledger/forkledgerlaw27.CoverOutflow", spec := "coverOutflow", recurses := true, plainKeys := false, apart := false, narrowed := true }
def CoverOutflowUptoSaid : Prop := coverOutflowUptoRow.holds Tryz.pinned (OpenSpec.upto coverOutflowSpec)

/-- 'forkledgerlaw27.CoverLimit', WHERE WHAT IT READS IS OF BULK AT MOST 1048576: true; the input reads as it did. -/
def coverLimitUptoRow : OpenClaim := { program := "ytneeclacmhhblaagreat", sum := "9dff06b4dcbe1a9a7d7160852d31d894b7f9da279a98ed2817280bbf885a4915", func := "forkledger/forkledgerlaw27.CoverLimit", spec := "coverLimit", recurses := true, plainKeys := false, apart := false, narrowed := true }
def CoverLimitUptoSaid : Prop := coverLimitUptoRow.holds Tryz.pinned (OpenSpec.upto coverLimitSpec)

/-- 'forkledgerlaw27.CoverBound', WHERE WHAT IT READS IS OF BULK AT MOST 1048576: true; the input reads as it did. -/
def coverBoundUptoRow : OpenClaim := { program := "ytneeclacmhhblaagreat", sum := "9dff06b4dcbe1a9a7d7160852d31d894b7f9da279a98ed2817280bbf885a4915", func := "forkledger/forkledgerlaw27.CoverBound", spec := "coverBound", recurses := true, plainKeys := false, apart := false, narrowed := true }
def CoverBoundUptoSaid : Prop := coverBoundUptoRow.holds Tryz.pinned (OpenSpec.upto coverBoundSpec)

end Rows
end Go.Proofs.YtneeclacmhhblaaGreat
