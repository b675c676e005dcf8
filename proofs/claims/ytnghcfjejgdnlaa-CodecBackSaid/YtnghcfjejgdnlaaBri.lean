/-
  Contracts of the program logic into the kit's words and back; arguments. No condition.
-/
import Derived.Test.YtnghcfjejgdnlaaTy
import Derived.Test.YtnghcfjejgdnlaaOpen
set_option linter.unusedSimpArgs false
set_option linter.unusedVariables false
set_option linter.unusedSectionVars false
namespace Go.Proofs.Ytnghcfjejgdnlaa
open Go.RowKit

def E0 (w : World) : Env := { w := w, S := fun _ => False, L := fun _ => ⟨none, 0⟩, D := fun _ => False }
section
variable {P : Program}
theorem Fresh.calls {f : FuncId} {args : List AV} {x : Value} (h : Fresh P f args (fun _ => .v x) []) (w : World) (xs : List Value) (hx : RVs (E0 w) args xs) : Calls P f xs.toArray w fun e w' => e = .returned x ∧ Ext w w' := by
  refine (h (E0 w) xs (fun g h => h) (fun b h => h) hx).mono ?_
  rintro e w' ⟨y, ls, rfl, h1, _, _, h4⟩
  have := (h4 0 (E0 w') rfl (fun g hg => hg.elim) (fun j hj => by simp at hj)).2.v_inv
  subst this
  exact ⟨rfl, h1⟩
theorem Fresh.of_calls {f : FuncId} {args : List AV} {x : Value} (h : ∀ (w : World) (xs : List Value) (E : Env), E.w = w → RVs E args xs → Calls P f xs.toArray w fun e w' => e = .returned x ∧ Ext w w') : Fresh P f args (fun _ => .v x) [] := by
  intro E xs hS hD hx
  refine (h E.w xs E rfl hx).mono ?_
  rintro e w' ⟨rfl, hb⟩
  exact ⟨x, fun _ => ⟨none, 0⟩, rfl, hb, fun j g hj => by simp at hj, fun i j g hi => by simp at hi, fun k E' _ _ _ => ⟨fun j blk hj => by simp at hj, .v x⟩⟩
/-- a call that returns a new slice -/
theorem Fresh.of_own {f : FuncId} {args : List AV} {n size : Nat} {e : TypeId} {vs : List Value} (h : ∀ (w : World) (xs : List Value) (E : Env), E.w = w → RVs E args xs → Calls P f xs.toArray w fun en w' => ∃ A c, en = .returned (.slice A n c) ∧ w'.ownsRow w.heap.size e size (.slice A n c) n vs ∧ Ext w w') :
    Fresh P f args (fun k => .sl k n) [⟨vs.map .v, e, size⟩] := by
  intro E xs hS hD hx
  refine (h E.w xs E rfl hx).mono ?_
  rintro en w' ⟨A, c, rfl, hown, hb⟩
  have hown0 := own_base hown (Nat.zero_le _)
  obtain ⟨l, rfl, rfl, hnl, hob, hB⟩ := loc_of hown0
  refine ⟨_, fun _ => l, rfl, hb, fun j g _ hg => ?_, fun i j g hi hj _ _ => by simp at hi hj; omega, fun k E' hw _ hD' => ⟨fun j blk hj => ?_, ?_⟩⟩
  · have := own_block hown g (by rw [hob]; exact hg)
    exact this
  · cases j with
    | zero => simp at hj; subst hj; exact hB E' _ hw (RVs.vals vs)
    | succ j => simp at hj
  · obtain ⟨d1, d2⟩ := hD' 0 (by simp)
    simp only [Nat.add_zero] at d1 d2
    rw [← d2] at hnl ⊢
    exact .sl _ _ d1 hnl
theorem arg1 {E : Env} {a : AV} {xs : List Value} (h : RVs E [a] xs) : ∃ x, xs = [x] ∧ RV E a x := by
  obtain ⟨x, ys, rfl, h1, h2⟩ := h.cons_inv
  rw [h2.nil_inv]
  exact ⟨x, rfl, h1⟩
theorem arg2 {E : Env} {a b : AV} {xs : List Value} (h : RVs E [a, b] xs) : ∃ x y, xs = [x, y] ∧ RV E a x ∧ RV E b y := by
  obtain ⟨x, ys, rfl, h1, h2⟩ := h.cons_inv
  obtain ⟨y, rfl, h3⟩ := arg1 h2
  exact ⟨x, y, rfl, h1, h3⟩
theorem arg3 {E : Env} {a b c : AV} {xs : List Value} (h : RVs E [a, b, c] xs) : ∃ x y z, xs = [x, y, z] ∧ RV E a x ∧ RV E b y ∧ RV E c z := by
  obtain ⟨x, ys, rfl, h1, h2⟩ := h.cons_inv
  obtain ⟨y, z, rfl, h3, h4⟩ := arg2 h2
  exact ⟨x, y, z, rfl, h1, h3, h4⟩
/-- a byte string that nobody changes -/
theorem ex_bytes {E : Env} {n : Nat} {f : Bool} {bs : List UInt8} {x : Value} (h : RV E (.ex n f (byA bs)) x) : ∃ A c, x = .slice A n c ∧ n ≤ c ∧ Rd E.w A (bytesV bs) := by
  generalize hcs : byA bs = cs at h
  cases h with
  | ex0 n f A c hn hf =>
    have : bs = [] := by simpa [byA] using hcs
    subst this
    exact ⟨A, c, rfl, hn, .inl rfl⟩
  | ex n f cs g o c xs hn hf hg hS hl hx h =>
    subst hcs
    have hv : RVs E (byA bs) xs := ⟨hl, h⟩
    rw [byA_vals] at hv
    rw [hv.vals_inv] at hx
    exact ⟨_, c, rfl, hn, .inr ⟨g, o, rfl, hx⟩⟩
theorem rv_bytes {w : World} {A : Option Addr} {L c : Nat} {bs : List UInt8} (h : BytesArg w A L c bs) : RV (E0 w) (.ex L false (byA bs)) (.slice A L c) := by
  obtain ⟨h1, h2, h3, h4, _⟩ := h
  rcases h4 with h4 | ⟨g, o, rfl, h4⟩
  · have : bs = [] := by simpa [bytesV] using h4
    subst this
    exact .ex0 _ _ _ _ h2 (fun h => by cases h)
  · by_cases hb : bs = []
    · subst hb; exact .ex0 _ _ _ _ h2 (fun h => by cases h)
    · have hR : RVs (E0 w) (byA bs) (bytesV bs) := by rw [byA_vals]; exact RVs.vals _
      refine .ex _ _ _ g o c (bytesV bs) h2 (fun h => by cases h) ?_ (fun h => h) hR.1 h4 hR.2
      cases bs with
      | nil => exact absurd rfl hb
      | cons b bs => exact block_lt_of_cell (h4 0 _ rfl)
end
end Go.Proofs.Ytnghcfjejgdnlaa
