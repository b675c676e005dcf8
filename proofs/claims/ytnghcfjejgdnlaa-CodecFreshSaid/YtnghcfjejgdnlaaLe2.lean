/-
  The program logic: states told anew that hold arrays of own slices; loops unrolled; an array's element. No condition.
-/
import Derived.Test.YtnghcfjejgdnlaaGive
set_option linter.unusedSimpArgs false
set_option linter.unusedVariables false
set_option linter.unusedSectionVars false
namespace Go.Proofs.Ytnghcfjejgdnlaa
open Go.RowKit
/-- the value under another name of its block -/
theorem Rn.rv {ρ : Nat → Nat} {E F : Env} (hw : E.sees F) (hL : ∀ b, F.L b = E.L (ρ b)) (hD : ∀ b, F.D b ↔ E.D (ρ b)) {u' u : AV} (h : Rn ρ u' u) {x : Value} (hr : RV E u' x) : RV F u x := by
  cases h with
  | v h => subst h; rw [hr.v_inv]; exact .v _
  | pt hb ho => subst hb ho; obtain ⟨g, rfl, h1, h2⟩ := hr.pt_inv; exact .pt _ _ g ((hD _).2 h1) (by rw [hL]; exact h2)
  | sl hb hn =>
    subst hb hn
    cases hr with
    | sl b n h1 h2 => rw [← hL] at h2 ⊢; exact RV.sl (E := F) _ _ ((hD _).2 h1) h2
  | sb hb ho hn hc =>
    subst hb ho hn hc
    cases hr with
    | sb b o n c A c' h1 hA hn hc => exact RV.sb (E := F) _ _ _ _ _ _ ((hD _).2 h1) (by rw [hL]; exact hA) hn hc
  | sc hb hn hc =>
    subst hb hn hc
    cases hr with
    | sc b n c h1 hc hn => rw [← hL] at hc ⊢; exact RV.sc (E := F) _ _ _ ((hD _).2 h1) hc hn
  | clo h e => subst e; exact h.cl E F x hw hr
inductive RnL (ρ : Nat → Nat) : List AV → List AV → Prop
  | nil : RnL ρ [] []
  | cons {u' u : AV} {us' us : List AV} (h : Rn ρ u' u) (k : RnL ρ us' us) : RnL ρ (u' :: us') (u :: us)
theorem RnL.rvs {ρ : Nat → Nat} {E F : Env} (hw : E.sees F) (hL : ∀ b, F.L b = E.L (ρ b)) (hD : ∀ b, F.D b ↔ E.D (ρ b)) {us' us : List AV} (h : RnL ρ us' us) : ∀ {xs : List Value}, RVs E us' xs → RVs F us xs := by
  induction h with
  | nil => intro xs hx; rw [hx.nil_inv]; exact RVs.nil F
  | cons h k ih =>
    intro xs hx
    obtain ⟨y, ys, rfl, r1, r2⟩ := hx.cons_inv
    exact RVs.cons (h.rv hw hL hD r1) (ih r2)
/-- a slot's word, or an array of words -/
inductive Rn2 (ρ : Nat → Nat) : AV → AV → Prop
  | r {u' u : AV} (h : Rn ρ u' u) : Rn2 ρ u' u
  | ag {us' us : List AV} (h : RnL ρ us' us) : Rn2 ρ (.ag us') (.ag us)
def RnT2 (ρ : Nat → Nat) (T' : AT) : AT → Prop
  | [] => True
  | (i, u) :: T => (∃ u', lk T' i = some u' ∧ Rn2 ρ u' u) ∧ RnT2 ρ T' T
theorem RnT2.n {ρ : Nat → Nat} {T' : AT} : RnT2 ρ T' [] := trivial
theorem RnT2.c {ρ : Nat → Nat} {T' T : AT} {i : Nat} {u u' : AV} (h : lk T' i = some u') (hr : Rn2 ρ u' u) (ht : RnT2 ρ T' T) : RnT2 ρ T' ((i, u) :: T) := ⟨⟨u', h, hr⟩, ht⟩
theorem RnT2.get {ρ : Nat → Nat} {T' : AT} : ∀ {T : AT}, RnT2 ρ T' T → ∀ t u, lk T t = some u → ∃ u', lk T' t = some u' ∧ Rn2 ρ u' u
  | [], _, t, u, h => by cases h
  | (i, w) :: T, hr, t, u, h => by
    rw [lk_cons] at h
    split at h
    · rename_i e; subst e; injection h with h; subst h; exact hr.1
    · exact RnT2.get hr.2 t u h
theorem Le.mk2 (ρ : Nat → Nat) {k' k : Nat} {H' H : AH} {T' T : AT} (hT : RnT2 ρ T' T) (hH : RnH ρ k H' H) (hi : inj1 ρ H = true) (hk : ∀ b, k ≤ b → k' ≤ ρ b) : Le k' H' T' k H T := by
  rintro n w0 M a w ⟨E, e1, e2, e3, e4, e5, e6⟩
  let F : Env := { w := E.w, S := fun g => ∃ b blk, Proofs.Ytnghcfjejgdnlaa.hk H b = some blk ∧ (E.L (ρ b)).g = some g, L := fun b => E.L (ρ b), D := fun b => E.D (ρ b) }
  have hsee : E.sees F := ⟨Nat.le_refl _, fun _ _ _ => rfl, fun g _ ⟨b, blk, hb, e⟩ => by
    obtain ⟨_, blk', h1, _⟩ := hH.get b blk hb
    exact (e2.seq g).2 ⟨ρ b, blk', h1, e⟩⟩
  refine ⟨F, e1, ⟨e2.os, e2.tape, e2.output, e2.size, e2.frame, fun g => Iff.rfl, fun b blk hb => ?_, fun b b' k1 k2 g h1 h2 x1 x2 => ?_⟩, fun b hb => ?_, fun t u hu => ?_, e5, e6⟩
  · obtain ⟨_, blk', h1, h2, h3, h4, h5⟩ := hH.get b blk hb
    obtain ⟨o1, o2, o3⟩ := e2.own (ρ b) blk' h1
    refine ⟨o1, o2, ?_⟩
    cases eg : (E.L (ρ b)).g with
    | none => exact .mk_none eg (by have := o3.none eg; rw [h2] at this; exact this)
    | some g =>
      obtain ⟨cs, c1, c2, c3, c4, c5⟩ := o3.at eg
      rw [h2] at c4 c5
      rw [h3] at c1
      rw [h4] at c3
      exact .mk eg ⟨cs, c1, c2, c3, c4, CloL.rvs (h := h5) hsee c5⟩
  · obtain ⟨_, b1, h3, _⟩ := hH.get b k1 h1
    obtain ⟨_, b2, h4, _⟩ := hH.get b' k2 h2
    have := e2.inj (ρ b) (ρ b') b1 b2 g h3 h4 x1 x2
    have hh := List.all_eq_true.1 (List.all_eq_true.1 hi _ (hk_mem h1)) _ (hk_mem h2)
    simp only [Bool.or_eq_true] at hh
    rcases hh with hh | hh
    · exact Nat.eq_of_beq_eq_true hh
    · simp [this] at hh
  · have hb' : E.D (ρ b) := hb
    have := e3 _ hb'
    rcases Nat.lt_or_ge b k with h | h
    · exact h
    · have := hk b h; omega
  · obtain ⟨u', h1, h2⟩ := hT.get t u hu
    obtain ⟨x, hx, hr⟩ := e4 t u' h1
    refine ⟨x, hx, ?_⟩
    cases h2 with
    | r h => exact h.rv hsee (fun _ => rfl) (fun _ => Iff.rfl) hr
    | ag h =>
      cases hr with
      | ag cs xs hl k =>
        have := h.rvs hsee (fun _ => rfl) (fun _ => Iff.rfl) (xs := xs.toList) ⟨by simpa using hl, fun j c x hc hx => k j c x hc (by simpa using hx)⟩
        exact .ag _ xs (by simpa using this.1) (fun j c x hc hx => this.2 j c x hc (by simpa using hx))
theorem Le.mk2' (l : List (Nat × Nat)) {k' k : Nat} {H' H : AH} {T' T : AT} (hT : RnT2 (rmp k' l k) T' T) (hH : RnH (rmp k' l k) k H' H) (hi : inj1 (rmp k' l k) H = true) : Le k' H' T' k H T := Le.mk2 _ hT hH hi (rmp_ge k' k l)
section
variable {P : Program} {t : TypeId} {k : Nat} {H : AH} {T : AT} {d : Option Tmp} {ty t' : TypeId} {ps : String} {af : Array Edge} {gd : Option (Nat × Bool)}
/-- an element of one cell of an array that is a value -/
class EI (P : Program) (t : TypeId) (n : outParam Nat) : Prop where
  hu : ∃ e, P.underlying t = some (.array n e) ∧ (∀ w, (isAgg e).run P w = .ok false w) ∧ ∀ w, (sizeOf e).run P w = .ok 1 w
theorem s_idxA {x y : Operand} {n i : Nat} {kk : IntKind} {us : List AV} {u : AV} [hA : EI P t n] (hx : ev T x = some (.ag us)) (hy : ev T y = some (.v (.int kk (i : Int)))) (hi : i < n) (hu : us[i]? = some u) :
    StepU P ⟨d, .index t x y, ty, ps, af, gd⟩ k [] H T u [] :=
  .of_pure fun _ _ _ E a hs hU hT => by
    have h1 := hT x (by simp [Op.operands]) _ hx
    have h2 := (hT y (by simp [Op.operands]) _ hy).v_inv
    obtain ⟨e, e1, e2, e3⟩ := hA.hu
    generalize hv : a.eval x = v at h1
    cases h1 with
    | ag cs xs hl h =>
      have hlt : i < xs.size := by rw [hl]; exact (List.getElem?_eq_some_iff.1 hu).1
      refine ⟨xs[i], ?_, h i u _ hu (Array.getElem?_eq_getElem hlt)⟩
      have hb : (0 : Int) ≤ (i : Int) ∧ (i : Int) < (n : Int) := by omega
      simp only [execOp, hv, h2, Instr.index, asIntOf, Sem.run_bind, Sem.run_pure, Result.andThen_ok, run_underlying e1, hb, and_self, if_true, e3, part, e2, Bool.false_eq_true, if_false, Int.toNat_natCast, Nat.mul_one, Array.getElem?_eq_getElem hlt]
end
end Go.Proofs.Ytnghcfjejgdnlaa
