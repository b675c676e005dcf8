/-
  The program logic: calls that hand back what they were given. No condition.
-/
import Derived.Test.YtnghcfjejgdnlaaBri
set_option linter.unusedSimpArgs false
set_option linter.unusedVariables false
set_option linter.unusedSectionVars false
namespace Go.Proofs.Ytnghcfjejgdnlaa
open Go.RowKit
section
variable {P : Program} {k : Nat} {H : AH} {T : AT} {d : Option Tmp} {ty : TypeId} {ps : String} {af : Array Edge} {gd : Option (Nat × Bool)}
/-- a call whose result reads as v wherever its arguments read as us -/
theorem s_callI {f : FuncId} {fo : Operand} {ops : List Operand} {ts : Array TypeId} {us : List AV} {v : AV} [hF : FnI P f] (hf : ev T fo = some (.fn f [])) (hu : evs T ops us)
    (hc : ∀ (E : Env) (xs : List Value), RVs E us xs → ∃ x, RV E v x ∧ Calls P f xs.toArray E.w fun e w' => e = .returned x ∧ Ext E.w w') :
    StepU P ⟨d, .call { callee := .value fo, args := ops.toArray, argTypes := ts }, ty, ps, af, gd⟩ k [] H T v [] := by
  refine ⟨fun w0 M Hr E a hs hU hk0 hT K Q hK => ?_⟩
  have hfv := hT fo (by simp [Op.operands, Call.operands]) _ hf
  have hxs := evs_rvs (E := E) (a := a) hu (fun x hx => hT x (by simp [Op.operands, Call.operands, hx]))
  obtain ⟨x, hx, hcall⟩ := hc E _ hxs
  have hrun : (execOp a.eval ⟨d, .call { callee := .value fo, args := ops.toArray, argTypes := ts }, ty, ps, af, gd⟩).run P E.w = .ok (.enter f (ops.map a.eval).toArray) E.w := by
    generalize hfe : a.eval fo = fv at hfv
    cases hfv with
    | fn f cs xs hl h =>
      have : xs = #[] := Array.eq_empty_of_size_eq_zero (by simpa using hl)
      subst this
      simp only [execOp, resolve, hfe, Deferred.ofValue, invoke, Sem.run_bind, Sem.run_pure, Result.andThen_ok, Array.empty_append, Array.append_empty, hF.hc]
      simp
  unfold Oper.wp
  rw [hrun]
  simp only [Oper.upon]
  refine hcall.mono ?_
  rintro e w' ⟨rfl, h1⟩
  obtain ⟨E', e1, e2, e3, e4, e5, e6⟩ := hs.news (k := k) (bs := []) (fun b hb1 hb2 => by simp at hb2; omega) w' (fun _ => ⟨none, 0⟩) h1 (fun j g hj => by simp at hj) (fun i j g hi => by simp at hi) (fun E' _ _ _ j blk hj => by simp at hj)
  have := hK x E' e2 e3 (fun b hb => (e4 b hb).imp id (fun h => by simp at h; omega)) (hx.mono e3)
  rw [e1] at this
  exact this
end
/-- what a slice of memory that nobody changes is -/
theorem ex_slice {E : Env} {n : Nat} {f : Bool} {cs : List AV} {x : Value} (h : RV E (.ex n f cs) x) : ∃ A c, x = .slice A n c ∧ n ≤ c := by
  cases h with
  | ex0 n f A c hn hf => exact ⟨A, c, rfl, hn⟩
  | ex n f cs g o c xs hn hf hg hS hl hx h => exact ⟨_, c, rfl, hn⟩
/-- its head -/
theorem ex_head {E : Env} {n m j c : Nat} {f : Bool} {cs : List AV} {A : Option Addr} (h : RV E (.ex n f cs) (.slice A n c)) (hm : m ≤ n) : RV E (.ex m false (cs.take j)) (.slice A m c) := by
  cases h with
  | ex0 n f A c hn hf => rw [List.take_nil]; exact .ex0 _ _ _ _ (by omega) (fun h => by cases h)
  | ex n f cs g o c xs hn hf hg hS hl hx h =>
    have hR : RVs E (cs.take j) (xs.take j) := RVs.take ⟨hl, h⟩ j
    refine .ex _ _ _ g o _ (xs.take j) (by omega) (fun h => by cases h) hg hS hR.1 (fun i y hy => ?_) hR.2
    rw [List.getElem?_take] at hy
    split at hy
    · exact hx i y hy
    · cases hy
end Go.Proofs.Ytnghcfjejgdnlaa
