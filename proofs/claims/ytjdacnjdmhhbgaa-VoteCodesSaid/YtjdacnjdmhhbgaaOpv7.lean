/-
  An argument that is a vote, opened. No condition.
-/
import Derived.Test.YtjdacnjdmhhbgaaOpg
import Derived.Test.YtjdacnjdmhhbgaaVote
set_option linter.unusedSimpArgs false
set_option linter.unusedVariables false
set_option linter.unusedSectionVars false
namespace Go.Proofs.Ytjdacnjdmhhbgaa
open Go.ChangeShapes Go.WideShapes Go.ChangeAt Go.RowKit

def okI (a : Int) : Prop := -9223372036854775808 ≤ a ∧ a ≤ 9223372036854775807
def okV (v : Vt) : Prop := okI v.kind ∧ okI v.slot ∧ okI v.round ∧ okI v.choice ∧ okI v.signer ∧ okI v.support
theorem opn_vote : Opn Try.prog 26 22 okV (fun v => (voteC v).toList.map AV.v) := by
  have hI := opn_i64 Try.underlying3
  have hM := opn_i64 Try.underlying22
  have hN := opn_name Try.underlying24 Try.underlying5 (by kernel_rfl) (by kernel_rfl)
  have h := Opn.struct (P := Try.prog) (t := 26) (k := 22) Try.underlying26 (by kernel_rfl)
    (OpnL.cons (k0 := 1) (k1 := 21) rfl (by kernel_rfl) hI (OpnL.cons (k0 := 1) (k1 := 20) rfl (by kernel_rfl) hI (OpnL.cons (k0 := 1) (k1 := 19) rfl (by kernel_rfl) hI (OpnL.cons (k0 := 1) (k1 := 18) rfl (by kernel_rfl) hI (OpnL.cons (k0 := 1) (k1 := 17) rfl (by kernel_rfl) hI (OpnL.cons (k0 := 1) (k1 := 16) rfl (by kernel_rfl) hM (OpnL.cons (k0 := 8) (k1 := 8) rfl (by kernel_rfl) hN (OpnL.cons (k0 := 8) (k1 := 0) rfl (by kernel_rfl) hN OpnL.nil))))))))
  exact h.map (fun p => ⟨p.1, p.2.1, p.2.2.1, p.2.2.2.1, p.2.2.2.2.1, p.2.2.2.2.2.1, p.2.2.2.2.2.2.1, p.2.2.2.2.2.2.2.1⟩) (fun p q => ⟨q.1, q.2.1, q.2.2.1, q.2.2.2.1, q.2.2.2.2.1, q.2.2.2.2.2.1⟩) (fun p => rfl)
theorem open_vote {H : Type} {enc : TypeId × Value → H} {w : World} {base b0 : Nat} {r : Reach} {held : Bool} {v : Value} {d : DataW H} {p : List MemPlace} (hv : Value.okWide Try.prog w r b0 26 v)
    (h : DataW.Trod enc Try.prog w base (fun _ => true) held 26 v d p) (hs : ∀ n ∈ d.weights Try.prog 26, n ≤ reachBytes) : ∃ a : Vt, v = .agg (voteC a) ∧ okV a := by
  obtain ⟨a, qa, ra⟩ := opn_vote.arg h hs
  have ht := Try.underlying26
  simp only [Value.okWide, ht] at hv
  obtain ⟨cs, rfl, _⟩ := hv
  refine ⟨a, ?_, qa⟩
  have := ra.vals_inv
  simp only [Value.cells] at this
  rw [← Array.toArray_toList (xs := cs), this]
end Go.Proofs.Ytjdacnjdmhhbgaa
