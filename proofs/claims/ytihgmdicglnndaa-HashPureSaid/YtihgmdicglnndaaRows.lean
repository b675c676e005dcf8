/-
  No cell of these rows narrows 'for every input' (looked for: loops, veiled, ifaces, maps, wideKeys, modest, calm, conditions, laid).
  DERIVED. THE GIVEN ROWS OF THIS SEAT. 12 by the template 'for every input the law returns true; each argument reads behind the call as it read before'; 0 by the template 'total and deterministic' (their statements: YtihgmdicglnndaaTotals.lean).
  GIVEN WITH THE SEED: the statements are not yours to turn. If you find one false, say at which input.
  Laid BY PROGRAM, IN A SANDBOX (cutbox-rows.mjs): the forced cells as the released guide's own fill.sh prints them over the translation c1f46e8736866777… (all of the seat's roots in one cut). By AI agents, Wed Nov 11 2026. No macro, syntax, notation, axiom, sorry.
-/
import Derived.Test.YtihgmdicglnndaaChecked
import GoSem.Claim
import GoSem.ClaimJoined
import GoSem.ClaimMapViews
import Derived.JoinedTies
import Derived.KernelRfl
namespace Go.Proofs.Ytihgmdicglnndaa
/- THE CELL 'sum', in the pinned program and in every row, IS THE sha256 OF THE DUMP (.gsa) THAT YtihgmdicglnndaaProg.lean LOADS. Nothing in Lean hashes anything: it is a label: what it is worth is what the hold of that sum in a sandbox is worth. -/
noncomputable def Try.pinned : Pinned := { name := "ytihgmdicglnndaa", sum := "c1f46e8736866777250c1699755e2b5b663635cfaade8fcab282e9a2f926807f", checked := Try.checked }
namespace Rows
def none {H : Type} : Left H := { results := [], args := [] }

/-- 'forkledgerlaw4.OnetimeDigits': WHATEVER THE INPUT: true; the input reads as it did. -/
def onetimeDigitsSpec : ChangeSpec := { name := "onetimeDigits", fn := fun _ => fun
  | [d] => { results := [.lit (.bool true)], args := [d] }
  | _ => none }
def onetimeDigitsRow : OpenClaim := { program := "ytihgmdicglnndaa", sum := "c1f46e8736866777250c1699755e2b5b663635cfaade8fcab282e9a2f926807f", func := "forkledger/forkledgerlaw4.OnetimeDigits", spec := "onetimeDigits", apart := false }
def OnetimeDigitsSaid : Prop := onetimeDigitsRow.holds Try.pinned (OpenSpec.ofChange onetimeDigitsSpec)

/-- ITS FALSE NEIGHBOUR: 'it returns false'. Refute it at one input. -/
def onetimeDigitsWrong : ChangeSpec := { name := "onetimeDigits", fn := fun _ => fun
  | [d] => { results := [.lit (.bool false)], args := [d] }
  | _ => none }
def OnetimeDigitsWrongFalsely : Prop := onetimeDigitsRow.holds Try.pinned (OpenSpec.ofChange onetimeDigitsWrong)

/-- 'forkledgerlaw4.OnetimeGuards': WHATEVER THE INPUT: true; the input reads as it did. -/
def onetimeGuardsSpec : ChangeSpec := { name := "onetimeGuards", fn := fun _ => fun
  | [d1, d2] => { results := [.lit (.bool true)], args := [d1, d2] }
  | _ => none }
def onetimeGuardsRow : OpenClaim := { program := "ytihgmdicglnndaa", sum := "c1f46e8736866777250c1699755e2b5b663635cfaade8fcab282e9a2f926807f", func := "forkledger/forkledgerlaw4.OnetimeGuards", spec := "onetimeGuards", apart := false }
def OnetimeGuardsSaid : Prop := onetimeGuardsRow.holds Try.pinned (OpenSpec.ofChange onetimeGuardsSpec)

/-- ITS FALSE NEIGHBOUR: 'it returns false'. Refute it at one input. -/
def onetimeGuardsWrong : ChangeSpec := { name := "onetimeGuards", fn := fun _ => fun
  | [d1, d2] => { results := [.lit (.bool false)], args := [d1, d2] }
  | _ => none }
def OnetimeGuardsWrongFalsely : Prop := onetimeGuardsRow.holds Try.pinned (OpenSpec.ofChange onetimeGuardsWrong)

/-- 'forkledgerlaw1.HashNumbers': WHATEVER THE INPUT: true; the input reads as it did. -/
def hashNumbersSpec : ChangeSpec := { name := "hashNumbers", fn := fun _ => fun
  | [d1, d2] => { results := [.lit (.bool true)], args := [d1, d2] }
  | _ => none }
def hashNumbersRow : OpenClaim := { program := "ytihgmdicglnndaa", sum := "c1f46e8736866777250c1699755e2b5b663635cfaade8fcab282e9a2f926807f", func := "forkledger/forkledgerlaw1.HashNumbers", spec := "hashNumbers", apart := false }
def HashNumbersSaid : Prop := hashNumbersRow.holds Try.pinned (OpenSpec.ofChange hashNumbersSpec)

/-- ITS FALSE NEIGHBOUR: 'it returns false'. Refute it at one input. -/
def hashNumbersWrong : ChangeSpec := { name := "hashNumbers", fn := fun _ => fun
  | [d1, d2] => { results := [.lit (.bool false)], args := [d1, d2] }
  | _ => none }
def HashNumbersWrongFalsely : Prop := hashNumbersRow.holds Try.pinned (OpenSpec.ofChange hashNumbersWrong)

/-- 'forkledgerlaw1.HashOrder': WHATEVER THE INPUT: true; the input reads as it did. -/
def hashOrderSpec : ChangeSpec := { name := "hashOrder", fn := fun _ => fun
  | [d1, d2, d3] => { results := [.lit (.bool true)], args := [d1, d2, d3] }
  | _ => none }
def hashOrderRow : OpenClaim := { program := "ytihgmdicglnndaa", sum := "c1f46e8736866777250c1699755e2b5b663635cfaade8fcab282e9a2f926807f", func := "forkledger/forkledgerlaw1.HashOrder", spec := "hashOrder", apart := false }
def HashOrderSaid : Prop := hashOrderRow.holds Try.pinned (OpenSpec.ofChange hashOrderSpec)

/-- ITS FALSE NEIGHBOUR: 'it returns false'. Refute it at one input. -/
def hashOrderWrong : ChangeSpec := { name := "hashOrder", fn := fun _ => fun
  | [d1, d2, d3] => { results := [.lit (.bool false)], args := [d1, d2, d3] }
  | _ => none }
def HashOrderWrongFalsely : Prop := hashOrderRow.holds Try.pinned (OpenSpec.ofChange hashOrderWrong)

/-- 'forkledgerlaw1.HashBytes': WHATEVER THE INPUT: true; the input reads as it did. -/
def hashBytesSpec : ChangeSpec := { name := "hashBytes", fn := fun _ => fun
  | [d1, d2] => { results := [.lit (.bool true)], args := [d1, d2] }
  | _ => none }
def hashBytesRow : OpenClaim := { program := "ytihgmdicglnndaa", sum := "c1f46e8736866777250c1699755e2b5b663635cfaade8fcab282e9a2f926807f", func := "forkledger/forkledgerlaw1.HashBytes", spec := "hashBytes", apart := false }
def HashBytesSaid : Prop := hashBytesRow.holds Try.pinned (OpenSpec.ofChange hashBytesSpec)

/-- ITS FALSE NEIGHBOUR: 'it returns false'. Refute it at one input. -/
def hashBytesWrong : ChangeSpec := { name := "hashBytes", fn := fun _ => fun
  | [d1, d2] => { results := [.lit (.bool false)], args := [d1, d2] }
  | _ => none }
def HashBytesWrongFalsely : Prop := hashBytesRow.holds Try.pinned (OpenSpec.ofChange hashBytesWrong)

/-- 'forkledgerlaw1.HashSums': WHATEVER THE INPUT: true; the input reads as it did. -/
def hashSumsSpec : ChangeSpec := { name := "hashSums", fn := fun _ => fun
  | [d] => { results := [.lit (.bool true)], args := [d] }
  | _ => none }
def hashSumsRow : OpenClaim := { program := "ytihgmdicglnndaa", sum := "c1f46e8736866777250c1699755e2b5b663635cfaade8fcab282e9a2f926807f", func := "forkledger/forkledgerlaw1.HashSums", spec := "hashSums", apart := false }
def HashSumsSaid : Prop := hashSumsRow.holds Try.pinned (OpenSpec.ofChange hashSumsSpec)

/-- ITS FALSE NEIGHBOUR: 'it returns false'. Refute it at one input. -/
def hashSumsWrong : ChangeSpec := { name := "hashSums", fn := fun _ => fun
  | [d] => { results := [.lit (.bool false)], args := [d] }
  | _ => none }
def HashSumsWrongFalsely : Prop := hashSumsRow.holds Try.pinned (OpenSpec.ofChange hashSumsWrong)

/-- 'forkledgerlaw1.HashPure': WHATEVER THE INPUT: true; the input reads as it did. -/
def hashPureSpec : ChangeSpec := { name := "hashPure", fn := fun _ => fun
  | [d1, d2] => { results := [.lit (.bool true)], args := [d1, d2] }
  | _ => none }
def hashPureRow : OpenClaim := { program := "ytihgmdicglnndaa", sum := "c1f46e8736866777250c1699755e2b5b663635cfaade8fcab282e9a2f926807f", func := "forkledger/forkledgerlaw1.HashPure", spec := "hashPure", apart := false }
def HashPureSaid : Prop := hashPureRow.holds Try.pinned (OpenSpec.ofChange hashPureSpec)

/-- ITS FALSE NEIGHBOUR: 'it returns false'. Refute it at one input. -/
def hashPureWrong : ChangeSpec := { name := "hashPure", fn := fun _ => fun
  | [d1, d2] => { results := [.lit (.bool false)], args := [d1, d2] }
  | _ => none }
def HashPureWrongFalsely : Prop := hashPureRow.holds Try.pinned (OpenSpec.ofChange hashPureWrong)

/-- 'forkledgerlaw1.HashTagged': WHATEVER THE INPUT: true; the input reads as it did. -/
def hashTaggedSpec : ChangeSpec := { name := "hashTagged", fn := fun _ => fun
  | [d1, d2, d3, d4] => { results := [.lit (.bool true)], args := [d1, d2, d3, d4] }
  | _ => none }
def hashTaggedRow : OpenClaim := { program := "ytihgmdicglnndaa", sum := "c1f46e8736866777250c1699755e2b5b663635cfaade8fcab282e9a2f926807f", func := "forkledger/forkledgerlaw1.HashTagged", spec := "hashTagged", apart := false }
def HashTaggedSaid : Prop := hashTaggedRow.holds Try.pinned (OpenSpec.ofChange hashTaggedSpec)

/-- ITS FALSE NEIGHBOUR: 'it returns false'. Refute it at one input. -/
def hashTaggedWrong : ChangeSpec := { name := "hashTagged", fn := fun _ => fun
  | [d1, d2, d3, d4] => { results := [.lit (.bool false)], args := [d1, d2, d3, d4] }
  | _ => none }
def HashTaggedWrongFalsely : Prop := hashTaggedRow.holds Try.pinned (OpenSpec.ofChange hashTaggedWrong)

/-- 'forkledgerlaw4.OnetimeChains': WHATEVER THE INPUT: true; the input reads as it did. -/
def onetimeChainsSpec : ChangeSpec := { name := "onetimeChains", fn := fun _ => fun
  | [d1, d2, d3] => { results := [.lit (.bool true)], args := [d1, d2, d3] }
  | _ => none }
def onetimeChainsRow : OpenClaim := { program := "ytihgmdicglnndaa", sum := "c1f46e8736866777250c1699755e2b5b663635cfaade8fcab282e9a2f926807f", func := "forkledger/forkledgerlaw4.OnetimeChains", spec := "onetimeChains", apart := false }
def OnetimeChainsSaid : Prop := onetimeChainsRow.holds Try.pinned (OpenSpec.ofChange onetimeChainsSpec)

/-- ITS FALSE NEIGHBOUR: 'it returns false'. Refute it at one input. -/
def onetimeChainsWrong : ChangeSpec := { name := "onetimeChains", fn := fun _ => fun
  | [d1, d2, d3] => { results := [.lit (.bool false)], args := [d1, d2, d3] }
  | _ => none }
def OnetimeChainsWrongFalsely : Prop := onetimeChainsRow.holds Try.pinned (OpenSpec.ofChange onetimeChainsWrong)

/-- 'forkledgerlaw4.OnetimeRecovers': WHATEVER THE INPUT: true; the input reads as it did. -/
def onetimeRecoversSpec : ChangeSpec := { name := "onetimeRecovers", fn := fun _ => fun
  | [d1, d2] => { results := [.lit (.bool true)], args := [d1, d2] }
  | _ => none }
def onetimeRecoversRow : OpenClaim := { program := "ytihgmdicglnndaa", sum := "c1f46e8736866777250c1699755e2b5b663635cfaade8fcab282e9a2f926807f", func := "forkledger/forkledgerlaw4.OnetimeRecovers", spec := "onetimeRecovers", apart := false }
def OnetimeRecoversSaid : Prop := onetimeRecoversRow.holds Try.pinned (OpenSpec.ofChange onetimeRecoversSpec)

/-- ITS FALSE NEIGHBOUR: 'it returns false'. Refute it at one input. -/
def onetimeRecoversWrong : ChangeSpec := { name := "onetimeRecovers", fn := fun _ => fun
  | [d1, d2] => { results := [.lit (.bool false)], args := [d1, d2] }
  | _ => none }
def OnetimeRecoversWrongFalsely : Prop := onetimeRecoversRow.holds Try.pinned (OpenSpec.ofChange onetimeRecoversWrong)

/-- 'forkledgerlaw4.OnetimeSigns': WHATEVER THE INPUT: true; the input reads as it did. -/
def onetimeSignsSpec : ChangeSpec := { name := "onetimeSigns", fn := fun _ => fun
  | [d1, d2] => { results := [.lit (.bool true)], args := [d1, d2] }
  | _ => none }
def onetimeSignsRow : OpenClaim := { program := "ytihgmdicglnndaa", sum := "c1f46e8736866777250c1699755e2b5b663635cfaade8fcab282e9a2f926807f", func := "forkledger/forkledgerlaw4.OnetimeSigns", spec := "onetimeSigns", apart := false }
def OnetimeSignsSaid : Prop := onetimeSignsRow.holds Try.pinned (OpenSpec.ofChange onetimeSignsSpec)

/-- ITS FALSE NEIGHBOUR: 'it returns false'. Refute it at one input. -/
def onetimeSignsWrong : ChangeSpec := { name := "onetimeSigns", fn := fun _ => fun
  | [d1, d2] => { results := [.lit (.bool false)], args := [d1, d2] }
  | _ => none }
def OnetimeSignsWrongFalsely : Prop := onetimeSignsRow.holds Try.pinned (OpenSpec.ofChange onetimeSignsWrong)

/-- 'forkledgerlaw4.OnetimeVerifies': WHATEVER THE INPUT: true; the input reads as it did. -/
def onetimeVerifiesSpec : ChangeSpec := { name := "onetimeVerifies", fn := fun _ => fun
  | [d1, d2] => { results := [.lit (.bool true)], args := [d1, d2] }
  | _ => none }
def onetimeVerifiesRow : OpenClaim := { program := "ytihgmdicglnndaa", sum := "c1f46e8736866777250c1699755e2b5b663635cfaade8fcab282e9a2f926807f", func := "forkledger/forkledgerlaw4.OnetimeVerifies", spec := "onetimeVerifies", apart := false }
def OnetimeVerifiesSaid : Prop := onetimeVerifiesRow.holds Try.pinned (OpenSpec.ofChange onetimeVerifiesSpec)

/-- ITS FALSE NEIGHBOUR: 'it returns false'. Refute it at one input. -/
def onetimeVerifiesWrong : ChangeSpec := { name := "onetimeVerifies", fn := fun _ => fun
  | [d1, d2] => { results := [.lit (.bool false)], args := [d1, d2] }
  | _ => none }
def OnetimeVerifiesWrongFalsely : Prop := onetimeVerifiesRow.holds Try.pinned (OpenSpec.ofChange onetimeVerifiesWrong)

/- THE SECOND FORM. 'bulk': how many values and letters a reading holds, each counted each time it is reached (what is shared counts as often as it is met; a slice's spare places count too). A statement '..UptoSaid' is the law's where the arguments, and the package variables that the reading takes, are together of bulk at most 1048576: NARROWER than '..Said'. Prove '..Said' where nothing that the law and all that it calls make is longer than what came in: it says more and counts as full. Else prove '..UptoSaid'. A law counts once. -/
mutual
def uptoBulk {H : Type} : DataW H → Nat
  | .lit (.string bytes) => bytes.length + 1
  | .lit _ => 1
  | .nil => 1
  | .ptr d => uptoBulk d + 1
  | .slice elems spare => uptoBulkAll elems + uptoBulkAll spare + 1
  | .agg parts => uptoBulkAll parts + 1
  | .iface _ d => uptoBulk d + 1
  | .map entries => uptoBulkEntries entries + 1
  | .held _ => 1
def uptoBulkAll {H : Type} : List (DataW H) → Nat
  | [] => 0
  | d :: r => uptoBulk d + uptoBulkAll r
def uptoBulkEntries {H : Type} : List (Lit × DataW H) → Nat
  | [] => 0
  | x :: r => uptoBulkEntry x + uptoBulkEntries r
def uptoBulkEntry {H : Type} : Lit × DataW H → Nat
  | (.string bytes, d) => bytes.length + uptoBulk d + 1
  | (_, d) => uptoBulk d + 1
 end
def uptoSmall : (H : Type) → List (DataW H) → Bool := fun _ ds => decide (uptoBulkAll ds ≤ 1048576)
def OpenSpec.upto (s : _root_.Go.ChangeSpec) : _root_.Go.OpenSpec := { _root_.Go.OpenSpec.ofChange s with cond := some uptoSmall }

/-- 'forkledgerlaw4.OnetimeDigits', WHERE WHAT IT READS IS OF BULK AT MOST 1048576: true; the input reads as it did. -/
def onetimeDigitsUptoRow : OpenClaim := { program := "ytihgmdicglnndaa", sum := "c1f46e8736866777250c1699755e2b5b663635cfaade8fcab282e9a2f926807f", func := "forkledger/forkledgerlaw4.OnetimeDigits", spec := "onetimeDigits", apart := false, narrowed := true }
def OnetimeDigitsUptoSaid : Prop := onetimeDigitsUptoRow.holds Try.pinned (OpenSpec.upto onetimeDigitsSpec)

/-- 'forkledgerlaw4.OnetimeGuards', WHERE WHAT IT READS IS OF BULK AT MOST 1048576: true; the input reads as it did. -/
def onetimeGuardsUptoRow : OpenClaim := { program := "ytihgmdicglnndaa", sum := "c1f46e8736866777250c1699755e2b5b663635cfaade8fcab282e9a2f926807f", func := "forkledger/forkledgerlaw4.OnetimeGuards", spec := "onetimeGuards", apart := false, narrowed := true }
def OnetimeGuardsUptoSaid : Prop := onetimeGuardsUptoRow.holds Try.pinned (OpenSpec.upto onetimeGuardsSpec)

/-- 'forkledgerlaw1.HashNumbers', WHERE WHAT IT READS IS OF BULK AT MOST 1048576: true; the input reads as it did. -/
def hashNumbersUptoRow : OpenClaim := { program := "ytihgmdicglnndaa", sum := "c1f46e8736866777250c1699755e2b5b663635cfaade8fcab282e9a2f926807f", func := "forkledger/forkledgerlaw1.HashNumbers", spec := "hashNumbers", apart := false, narrowed := true }
def HashNumbersUptoSaid : Prop := hashNumbersUptoRow.holds Try.pinned (OpenSpec.upto hashNumbersSpec)

/-- 'forkledgerlaw1.HashOrder', WHERE WHAT IT READS IS OF BULK AT MOST 1048576: true; the input reads as it did. -/
def hashOrderUptoRow : OpenClaim := { program := "ytihgmdicglnndaa", sum := "c1f46e8736866777250c1699755e2b5b663635cfaade8fcab282e9a2f926807f", func := "forkledger/forkledgerlaw1.HashOrder", spec := "hashOrder", apart := false, narrowed := true }
def HashOrderUptoSaid : Prop := hashOrderUptoRow.holds Try.pinned (OpenSpec.upto hashOrderSpec)

/-- 'forkledgerlaw1.HashBytes', WHERE WHAT IT READS IS OF BULK AT MOST 1048576: true; the input reads as it did. -/
def hashBytesUptoRow : OpenClaim := { program := "ytihgmdicglnndaa", sum := "c1f46e8736866777250c1699755e2b5b663635cfaade8fcab282e9a2f926807f", func := "forkledger/forkledgerlaw1.HashBytes", spec := "hashBytes", apart := false, narrowed := true }
def HashBytesUptoSaid : Prop := hashBytesUptoRow.holds Try.pinned (OpenSpec.upto hashBytesSpec)

/-- 'forkledgerlaw1.HashSums', WHERE WHAT IT READS IS OF BULK AT MOST 1048576: true; the input reads as it did. -/
def hashSumsUptoRow : OpenClaim := { program := "ytihgmdicglnndaa", sum := "c1f46e8736866777250c1699755e2b5b663635cfaade8fcab282e9a2f926807f", func := "forkledger/forkledgerlaw1.HashSums", spec := "hashSums", apart := false, narrowed := true }
def HashSumsUptoSaid : Prop := hashSumsUptoRow.holds Try.pinned (OpenSpec.upto hashSumsSpec)

/-- 'forkledgerlaw1.HashPure', WHERE WHAT IT READS IS OF BULK AT MOST 1048576: true; the input reads as it did. -/
def hashPureUptoRow : OpenClaim := { program := "ytihgmdicglnndaa", sum := "c1f46e8736866777250c1699755e2b5b663635cfaade8fcab282e9a2f926807f", func := "forkledger/forkledgerlaw1.HashPure", spec := "hashPure", apart := false, narrowed := true }
def HashPureUptoSaid : Prop := hashPureUptoRow.holds Try.pinned (OpenSpec.upto hashPureSpec)

/-- 'forkledgerlaw1.HashTagged', WHERE WHAT IT READS IS OF BULK AT MOST 1048576: true; the input reads as it did. -/
def hashTaggedUptoRow : OpenClaim := { program := "ytihgmdicglnndaa", sum := "c1f46e8736866777250c1699755e2b5b663635cfaade8fcab282e9a2f926807f", func := "forkledger/forkledgerlaw1.HashTagged", spec := "hashTagged", apart := false, narrowed := true }
def HashTaggedUptoSaid : Prop := hashTaggedUptoRow.holds Try.pinned (OpenSpec.upto hashTaggedSpec)

/-- 'forkledgerlaw4.OnetimeChains', WHERE WHAT IT READS IS OF BULK AT MOST 1048576: true; the input reads as it did. -/
def onetimeChainsUptoRow : OpenClaim := { program := "ytihgmdicglnndaa", sum := "c1f46e8736866777250c1699755e2b5b663635cfaade8fcab282e9a2f926807f", func := "forkledger/forkledgerlaw4.OnetimeChains", spec := "onetimeChains", apart := false, narrowed := true }
def OnetimeChainsUptoSaid : Prop := onetimeChainsUptoRow.holds Try.pinned (OpenSpec.upto onetimeChainsSpec)

/-- 'forkledgerlaw4.OnetimeRecovers', WHERE WHAT IT READS IS OF BULK AT MOST 1048576: true; the input reads as it did. -/
def onetimeRecoversUptoRow : OpenClaim := { program := "ytihgmdicglnndaa", sum := "c1f46e8736866777250c1699755e2b5b663635cfaade8fcab282e9a2f926807f", func := "forkledger/forkledgerlaw4.OnetimeRecovers", spec := "onetimeRecovers", apart := false, narrowed := true }
def OnetimeRecoversUptoSaid : Prop := onetimeRecoversUptoRow.holds Try.pinned (OpenSpec.upto onetimeRecoversSpec)

/-- 'forkledgerlaw4.OnetimeSigns', WHERE WHAT IT READS IS OF BULK AT MOST 1048576: true; the input reads as it did. -/
def onetimeSignsUptoRow : OpenClaim := { program := "ytihgmdicglnndaa", sum := "c1f46e8736866777250c1699755e2b5b663635cfaade8fcab282e9a2f926807f", func := "forkledger/forkledgerlaw4.OnetimeSigns", spec := "onetimeSigns", apart := false, narrowed := true }
def OnetimeSignsUptoSaid : Prop := onetimeSignsUptoRow.holds Try.pinned (OpenSpec.upto onetimeSignsSpec)

/-- 'forkledgerlaw4.OnetimeVerifies', WHERE WHAT IT READS IS OF BULK AT MOST 1048576: true; the input reads as it did. -/
def onetimeVerifiesUptoRow : OpenClaim := { program := "ytihgmdicglnndaa", sum := "c1f46e8736866777250c1699755e2b5b663635cfaade8fcab282e9a2f926807f", func := "forkledger/forkledgerlaw4.OnetimeVerifies", spec := "onetimeVerifies", apart := false, narrowed := true }
def OnetimeVerifiesUptoSaid : Prop := onetimeVerifiesUptoRow.holds Try.pinned (OpenSpec.upto onetimeVerifiesSpec)

end Rows
end Go.Proofs.Ytihgmdicglnndaa
