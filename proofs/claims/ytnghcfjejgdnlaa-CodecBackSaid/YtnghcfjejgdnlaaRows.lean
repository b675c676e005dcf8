/-
  No cell of these rows narrows 'for every input' (looked for: loops, veiled, ifaces, maps, wideKeys, modest, calm, conditions, laid).
  DERIVED. THE GIVEN ROWS OF THIS SEAT. 6 by the template 'for every input the law returns true; each argument reads behind the call as it read before'; 0 by the template 'total and deterministic' (their statements: YtnghcfjejgdnlaaTotals.lean).
  GIVEN WITH THE SEED: the statements are not yours to turn. If you find one false, say at which input.
  Laid BY PROGRAM, IN A SANDBOX (cutbox-rows.mjs): the forced cells as the released guide's own fill.sh prints them over the translation cdb788783179bb41… (all of the seat's roots in one cut). By AI agents, Wed Nov 11 2026. No macro, syntax, notation, axiom, sorry.
-/
import Derived.Test.YtnghcfjejgdnlaaChecked
import GoSem.Claim
import GoSem.ClaimJoined
import GoSem.ClaimMapViews
import Derived.JoinedTies
import Derived.KernelRfl
namespace Go.Proofs.Ytnghcfjejgdnlaa
/- THE CELL 'sum', in the pinned program and in every row, IS THE sha256 OF THE DUMP (.gsa) THAT YtnghcfjejgdnlaaProg.lean LOADS. Nothing in Lean hashes anything: it is a label: what it is worth is what the hold of that sum in a sandbox is worth. -/
noncomputable def Try.pinned : Pinned := { name := "ytnghcfjejgdnlaa", sum := "cdb788783179bb41a36636cc67c7b7277b40848a18f933132a50bc2320b3dd2a", checked := Try.checked }
namespace Rows
def none {H : Type} : Left H := { results := [], args := [] }

/-- 'forkledgerlaw2.CodecApart': WHATEVER THE INPUT: true; the input reads as it did. -/
def codecApartSpec : ChangeSpec := { name := "codecApart", fn := fun _ => fun
  | [d1, d2, d3] => { results := [.lit (.bool true)], args := [d1, d2, d3] }
  | _ => none }
def codecApartRow : OpenClaim := { program := "ytnghcfjejgdnlaa", sum := "cdb788783179bb41a36636cc67c7b7277b40848a18f933132a50bc2320b3dd2a", func := "forkledger/forkledgerlaw2.CodecApart", spec := "codecApart", apart := false }
def CodecApartSaid : Prop := codecApartRow.holds Try.pinned (OpenSpec.ofChange codecApartSpec)

/-- ITS FALSE NEIGHBOUR: 'it returns false'. Refute it at one input. -/
def codecApartWrong : ChangeSpec := { name := "codecApart", fn := fun _ => fun
  | [d1, d2, d3] => { results := [.lit (.bool false)], args := [d1, d2, d3] }
  | _ => none }
def CodecApartWrongFalsely : Prop := codecApartRow.holds Try.pinned (OpenSpec.ofChange codecApartWrong)

/-- 'forkledgerlaw2.CodecFresh': WHATEVER THE INPUT: true; the input reads as it did. -/
def codecFreshSpec : ChangeSpec := { name := "codecFresh", fn := fun _ => fun
  | [d1, d2, d3, d4, d5, d6] => { results := [.lit (.bool true)], args := [d1, d2, d3, d4, d5, d6] }
  | _ => none }
def codecFreshRow : OpenClaim := { program := "ytnghcfjejgdnlaa", sum := "cdb788783179bb41a36636cc67c7b7277b40848a18f933132a50bc2320b3dd2a", func := "forkledger/forkledgerlaw2.CodecFresh", spec := "codecFresh", apart := false }
def CodecFreshSaid : Prop := codecFreshRow.holds Try.pinned (OpenSpec.ofChange codecFreshSpec)

/-- ITS FALSE NEIGHBOUR: 'it returns false'. Refute it at one input. -/
def codecFreshWrong : ChangeSpec := { name := "codecFresh", fn := fun _ => fun
  | [d1, d2, d3, d4, d5, d6] => { results := [.lit (.bool false)], args := [d1, d2, d3, d4, d5, d6] }
  | _ => none }
def CodecFreshWrongFalsely : Prop := codecFreshRow.holds Try.pinned (OpenSpec.ofChange codecFreshWrong)

/-- 'forkledgerlaw2.CodecNumbers': WHATEVER THE INPUT: true; the input reads as it did. -/
def codecNumbersSpec : ChangeSpec := { name := "codecNumbers", fn := fun _ => fun
  | [d1, d2, d3, d4, d5] => { results := [.lit (.bool true)], args := [d1, d2, d3, d4, d5] }
  | _ => none }
def codecNumbersRow : OpenClaim := { program := "ytnghcfjejgdnlaa", sum := "cdb788783179bb41a36636cc67c7b7277b40848a18f933132a50bc2320b3dd2a", func := "forkledger/forkledgerlaw2.CodecNumbers", spec := "codecNumbers", apart := false }
def CodecNumbersSaid : Prop := codecNumbersRow.holds Try.pinned (OpenSpec.ofChange codecNumbersSpec)

/-- ITS FALSE NEIGHBOUR: 'it returns false'. Refute it at one input. -/
def codecNumbersWrong : ChangeSpec := { name := "codecNumbers", fn := fun _ => fun
  | [d1, d2, d3, d4, d5] => { results := [.lit (.bool false)], args := [d1, d2, d3, d4, d5] }
  | _ => none }
def CodecNumbersWrongFalsely : Prop := codecNumbersRow.holds Try.pinned (OpenSpec.ofChange codecNumbersWrong)

/-- 'forkledgerlaw2.CodecStrings': WHATEVER THE INPUT: true; the input reads as it did. -/
def codecStringsSpec : ChangeSpec := { name := "codecStrings", fn := fun _ => fun
  | [d1, d2, d3, d4] => { results := [.lit (.bool true)], args := [d1, d2, d3, d4] }
  | _ => none }
def codecStringsRow : OpenClaim := { program := "ytnghcfjejgdnlaa", sum := "cdb788783179bb41a36636cc67c7b7277b40848a18f933132a50bc2320b3dd2a", func := "forkledger/forkledgerlaw2.CodecStrings", spec := "codecStrings", apart := false }
def CodecStringsSaid : Prop := codecStringsRow.holds Try.pinned (OpenSpec.ofChange codecStringsSpec)

/-- ITS FALSE NEIGHBOUR: 'it returns false'. Refute it at one input. -/
def codecStringsWrong : ChangeSpec := { name := "codecStrings", fn := fun _ => fun
  | [d1, d2, d3, d4] => { results := [.lit (.bool false)], args := [d1, d2, d3, d4] }
  | _ => none }
def CodecStringsWrongFalsely : Prop := codecStringsRow.holds Try.pinned (OpenSpec.ofChange codecStringsWrong)

/-- 'forkledgerlaw2.CodecNames': WHATEVER THE INPUT: true; the input reads as it did. -/
def codecNamesSpec : ChangeSpec := { name := "codecNames", fn := fun _ => fun
  | [d1, d2, d3, d4] => { results := [.lit (.bool true)], args := [d1, d2, d3, d4] }
  | _ => none }
def codecNamesRow : OpenClaim := { program := "ytnghcfjejgdnlaa", sum := "cdb788783179bb41a36636cc67c7b7277b40848a18f933132a50bc2320b3dd2a", func := "forkledger/forkledgerlaw2.CodecNames", spec := "codecNames", apart := false }
def CodecNamesSaid : Prop := codecNamesRow.holds Try.pinned (OpenSpec.ofChange codecNamesSpec)

/-- ITS FALSE NEIGHBOUR: 'it returns false'. Refute it at one input. -/
def codecNamesWrong : ChangeSpec := { name := "codecNames", fn := fun _ => fun
  | [d1, d2, d3, d4] => { results := [.lit (.bool false)], args := [d1, d2, d3, d4] }
  | _ => none }
def CodecNamesWrongFalsely : Prop := codecNamesRow.holds Try.pinned (OpenSpec.ofChange codecNamesWrong)

/-- 'forkledgerlaw2.CodecBack': WHATEVER THE INPUT: true; the input reads as it did. -/
def codecBackSpec : ChangeSpec := { name := "codecBack", fn := fun _ => fun
  | [d1, d2] => { results := [.lit (.bool true)], args := [d1, d2] }
  | _ => none }
def codecBackRow : OpenClaim := { program := "ytnghcfjejgdnlaa", sum := "cdb788783179bb41a36636cc67c7b7277b40848a18f933132a50bc2320b3dd2a", func := "forkledger/forkledgerlaw2.CodecBack", spec := "codecBack", apart := false }
def CodecBackSaid : Prop := codecBackRow.holds Try.pinned (OpenSpec.ofChange codecBackSpec)

/-- ITS FALSE NEIGHBOUR: 'it returns false'. Refute it at one input. -/
def codecBackWrong : ChangeSpec := { name := "codecBack", fn := fun _ => fun
  | [d1, d2] => { results := [.lit (.bool false)], args := [d1, d2] }
  | _ => none }
def CodecBackWrongFalsely : Prop := codecBackRow.holds Try.pinned (OpenSpec.ofChange codecBackWrong)

/- THE SECOND FORM. 'bulk': how many values and letters a reading holds, each counted each time it is reached (what is shared counts as often as it is met; a slice's spare places count too). A statement '..UptoSaid' is the law's where the arguments, and the package variables that the reading takes, are together of bulk at most 1048576: NARROWER than '..Said'. Prove '..Said' where nothing that the law and all that it calls make is longer than what came in: it says more and counts as full. Else prove '..UptoSaid'. A law counts once. -/
mutual
def uptoBulk {H : Type} : DataW H → Nat
  | .lit (.string bytes) => bytes.length + 1
  | .lit _ => 1
  | .nil => 1
  | .ptr d => uptoBulk d + 1
  | .slice elems spare => uptoBulkAll elems + uptoBulkAll spare + 1
  | .agg parts => uptoBulkAll parts + 1
  | .iface _ d => uptoBulk d + 1
  | .map entries => uptoBulkEntries entries + 1
  | .held _ => 1
def uptoBulkAll {H : Type} : List (DataW H) → Nat
  | [] => 0
  | d :: r => uptoBulk d + uptoBulkAll r
def uptoBulkEntries {H : Type} : List (Lit × DataW H) → Nat
  | [] => 0
  | x :: r => uptoBulkEntry x + uptoBulkEntries r
def uptoBulkEntry {H : Type} : Lit × DataW H → Nat
  | (.string bytes, d) => bytes.length + uptoBulk d + 1
  | (_, d) => uptoBulk d + 1
 end
def uptoSmall : (H : Type) → List (DataW H) → Bool := fun _ ds => decide (uptoBulkAll ds ≤ 1048576)
def OpenSpec.upto (s : _root_.Go.ChangeSpec) : _root_.Go.OpenSpec := { _root_.Go.OpenSpec.ofChange s with cond := some uptoSmall }

/-- 'forkledgerlaw2.CodecApart', WHERE WHAT IT READS IS OF BULK AT MOST 1048576: true; the input reads as it did. -/
def codecApartUptoRow : OpenClaim := { program := "ytnghcfjejgdnlaa", sum := "cdb788783179bb41a36636cc67c7b7277b40848a18f933132a50bc2320b3dd2a", func := "forkledger/forkledgerlaw2.CodecApart", spec := "codecApart", apart := false, narrowed := true }
def CodecApartUptoSaid : Prop := codecApartUptoRow.holds Try.pinned (OpenSpec.upto codecApartSpec)

/-- 'forkledgerlaw2.CodecFresh', WHERE WHAT IT READS IS OF BULK AT MOST 1048576: true; the input reads as it did. -/
def codecFreshUptoRow : OpenClaim := { program := "ytnghcfjejgdnlaa", sum := "cdb788783179bb41a36636cc67c7b7277b40848a18f933132a50bc2320b3dd2a", func := "forkledger/forkledgerlaw2.CodecFresh", spec := "codecFresh", apart := false, narrowed := true }
def CodecFreshUptoSaid : Prop := codecFreshUptoRow.holds Try.pinned (OpenSpec.upto codecFreshSpec)

/-- 'forkledgerlaw2.CodecNumbers', WHERE WHAT IT READS IS OF BULK AT MOST 1048576: true; the input reads as it did. -/
def codecNumbersUptoRow : OpenClaim := { program := "ytnghcfjejgdnlaa", sum := "cdb788783179bb41a36636cc67c7b7277b40848a18f933132a50bc2320b3dd2a", func := "forkledger/forkledgerlaw2.CodecNumbers", spec := "codecNumbers", apart := false, narrowed := true }
def CodecNumbersUptoSaid : Prop := codecNumbersUptoRow.holds Try.pinned (OpenSpec.upto codecNumbersSpec)

/-- 'forkledgerlaw2.CodecStrings', WHERE WHAT IT READS IS OF BULK AT MOST 1048576: true; the input reads as it did. -/
def codecStringsUptoRow : OpenClaim := { program := "ytnghcfjejgdnlaa", sum := "cdb788783179bb41a36636cc67c7b7277b40848a18f933132a50bc2320b3dd2a", func := "forkledger/forkledgerlaw2.CodecStrings", spec := "codecStrings", apart := false, narrowed := true }
def CodecStringsUptoSaid : Prop := codecStringsUptoRow.holds Try.pinned (OpenSpec.upto codecStringsSpec)

/-- 'forkledgerlaw2.CodecNames', WHERE WHAT IT READS IS OF BULK AT MOST 1048576: true; the input reads as it did. -/
def codecNamesUptoRow : OpenClaim := { program := "ytnghcfjejgdnlaa", sum := "cdb788783179bb41a36636cc67c7b7277b40848a18f933132a50bc2320b3dd2a", func := "forkledger/forkledgerlaw2.CodecNames", spec := "codecNames", apart := false, narrowed := true }
def CodecNamesUptoSaid : Prop := codecNamesUptoRow.holds Try.pinned (OpenSpec.upto codecNamesSpec)

/-- 'forkledgerlaw2.CodecBack', WHERE WHAT IT READS IS OF BULK AT MOST 1048576: true; the input reads as it did. -/
def codecBackUptoRow : OpenClaim := { program := "ytnghcfjejgdnlaa", sum := "cdb788783179bb41a36636cc67c7b7277b40848a18f933132a50bc2320b3dd2a", func := "forkledger/forkledgerlaw2.CodecBack", spec := "codecBack", apart := false, narrowed := true }
def CodecBackUptoSaid : Prop := codecBackUptoRow.holds Try.pinned (OpenSpec.upto codecBackSpec)

end Rows
end Go.Proofs.Ytnghcfjejgdnlaa
