/-
  Layer 2: values that are appended, as arguments. No condition.
-/
import Derived.Test.YtnghcfjejgdnlaaCod4
import Derived.Test.YtnghcfjejgdnlaaOpg
set_option linter.unusedSimpArgs false
set_option linter.unusedVariables false
set_option linter.unusedSectionVars false
namespace Go.Proofs.Ytnghcfjejgdnlaa
open Go.ChangeShapes Go.WideShapes Go.ChangeAt Go.RowKit

structure Vl where
  kind : Int
  width : Int
  v : UInt64
  p : List UInt8
  l : List UInt64
def valC (x : Vl) : List AV := [.v (.int .i64 x.kind), .v (.int .i64 x.width), .v (.int .u64 (x.v.toNat : Int)), .ex x.p.length false (byA x.p), .ex x.l.length false (byA (flat x.l))]
def okI (a : Int) : Prop := -9223372036854775808 ≤ a ∧ a ≤ 9223372036854775807
def okVl (x : Vl) : Prop := okI x.kind ∧ okI x.width ∧ x.p.length ≤ 140737488351232 ∧ x.l.length * 8 ≤ 140737488351232
theorem opn_val : Opn Try.prog 27 5 okVl valC := by
  have hI := opn_i64 Try.underlying3
  have hU := opn_u64 Try.underlying23
  have hB := opn_bytes Try.underlying24 Try.underlying5 (by kernel_rfl) (by kernel_rfl)
  have hN := opn_names Try.underlying25 Try.underlying53 Try.underlying5 (by kernel_rfl) (by kernel_rfl) (by kernel_rfl)
  have h := Opn.struct (P := Try.prog) (t := 27) (k := 5) Try.underlying27 (by kernel_rfl)
    (OpnL.cons (k0 := 1) (k1 := 4) rfl (by kernel_rfl) hI (OpnL.cons (k0 := 1) (k1 := 3) rfl (by kernel_rfl) hI (OpnL.cons (k0 := 1) (k1 := 2) rfl (by kernel_rfl) hU (OpnL.cons (k0 := 1) (k1 := 1) rfl (by kernel_rfl) hB (OpnL.cons (k0 := 1) (k1 := 0) rfl (by kernel_rfl) hN OpnL.nil)))))
  exact h.map (fun x => ⟨x.1, x.2.1, x.2.2.1, x.2.2.2.1, x.2.2.2.2.1⟩) (fun x q => ⟨q.1, q.2.1, q.2.2.2.1, q.2.2.2.2.1⟩) (fun x => rfl)
theorem opn_vals : Opn Try.prog 22 1 (fun l : List Vl => l.length ≤ 140737488351232 ∧ ∀ a ∈ l, okVl a) (fun l => [.ex l.length false (l.flatMap valC)]) :=
  (Opn.slice Try.underlying22 (by kernel_rfl) opn_val).map (fun l => l) (fun l h => by
    have hb : Try.prog.bytesOf 27 = 72 := by kernel_rfl
    have := h.1
    rw [hb] at this
    have hr : reachBytes = 140737488351232 := rfl
    exact ⟨by omega, h.2⟩) (fun l => rfl)
end Go.Proofs.Ytnghcfjejgdnlaa
