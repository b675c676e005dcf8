/-
  The program logic: structs and arrays built of parts. No condition.
-/
import Derived.Test.YtnghcfjejgdnlaaJn
set_option linter.unusedSimpArgs false
set_option linter.unusedVariables false
set_option linter.unusedSectionVars false
namespace Go.Proofs.Ytnghcfjejgdnlaa
open Go.RowKit

class PI (P : Program) (t : TypeId) (z : outParam (List Value)) (pl : outParam (List (Nat × Nat))) : Prop where
  h : ∀ (w : World) (parts : Array (Nat × Value)) (cells : Array Value), Instr.fill (pl[·]?) z.toArray parts.toList = some cells → (Instr.build t parts).run P w = .ok (.agg cells) w
theorem fill_mono {p q : Nat → Option (Nat × Nat)} (h : ∀ i x, p i = some x → q i = some x) : ∀ (l : List (Nat × Value)) (cs r : Array Value), Instr.fill p cs l = some r → Instr.fill q cs l = some r
  | [], _, _, e => e
  | (i, v) :: rest, cs, r, e => by
    simp only [Instr.fill] at e ⊢
    cases hp : p i with
    | none => rw [hp] at e; cases e
    | some x =>
      obtain ⟨o, s⟩ := x
      rw [hp] at e
      rw [h i _ hp]
      simp only at e ⊢
      split at e
      · cases e
      · rename_i hn; rw [if_neg hn]; exact fill_mono h rest _ _ e
theorem PI.struct {P : Program} {t : TypeId} {fs : Array Field} {z : List Value} {pl : List (Nat × Nat)} (hu : P.underlying t = some (.struct fs)) (hz : ∀ w, (zeroValue t).run P w = .ok (.agg z.toArray) w)
    (hp : ∀ w, (fs.mapM fun f => do pure (f.offset, ← sizeOf f.type) : Sem (Array (Nat × Nat))).run P w = .ok pl.toArray w) : PI P t z pl := ⟨fun w parts cells h => by
  have h' : Instr.fill (fun x => pl.toArray[x]?) z.toArray parts.toList = some cells := by simpa using h
  simp only [Instr.build, Sem.run_bind, hz, Result.andThen_ok, run_underlying hu, hp, Value.cells, h', Sem.run_pure]⟩
theorem PI.array {P : Program} {t e : TypeId} {n size : Nat} {z : List Value} {pl : List (Nat × Nat)} (hu : P.underlying t = some (.array n e)) (hz : ∀ w, (zeroValue t).run P w = .ok (.agg z.toArray) w)
    (hs : (P.info? e).map (·.size) = some size) (hp : pl = (List.range n).map fun i => (i * size, size)) : PI P t z pl := ⟨fun w parts cells h => by
  have h' : Instr.fill (fun i => some (i * size, size)) z.toArray parts.toList = some cells := fill_mono (fun i x hx => by
    subst hp
    rw [List.getElem?_map] at hx
    cases hr : (List.range n)[i]? with
    | none => rw [hr] at hx; cases hx
    | some j => rw [hr] at hx; have := List.getElem?_eq_some_iff.1 hr; obtain ⟨hlt, hj⟩ := this; rw [List.getElem_range] at hj; subst hj; exact hx) _ _ _ h
  simp only [Instr.build, Sem.run_bind, hz, Result.andThen_ok, run_underlying hu, run_sizeOf' hs, Value.cells, h', Sem.run_pure]⟩
def splB (cs : List AV) (o : Nat) (ds : List AV) : List AV := spl cs o ds
def cuB (u : AV) : List AV := cu u
/-- the parts put into their places -/
def fillA (T : AT) (pl : List (Nat × Nat)) (N : Nat) (cs : List AV) : List (Nat × Operand) → Option (List AV)
  | [] => some cs
  | (i, x) :: rest => match pl[i]? with
    | none => none
    | some (o, s) => match ev T x with
      | none => none
      | some u => bif Nat.beq (cu u).length s && Nat.ble (o + s) N then fillA T pl N (splB cs o (cuB u)) rest else none
theorem fillA_ok {P : Program} {T : AT} {pl : List (Nat × Nat)} {N : Nat} {E : Env} {a : Act} : ∀ (l : List (Nat × Operand)) (cs r : List AV) (xs : List Value), (∀ x ∈ l.map (·.2), ∀ u, ev T x = some u → RV E u (a.eval x)) → RVs E cs xs → cs.length = N → fillA T pl N cs l = some r →
    ∃ ys, Instr.fill (pl[·]?) xs.toArray (l.map fun p => (p.1, a.eval p.2)) = some ys.toArray ∧ RVs E r ys
  | [], cs, r, xs, _, hR, _, h => by
    simp only [fillA, Option.some.injEq] at h
    subst h
    exact ⟨xs, rfl, hR⟩
  | (i, x) :: rest, cs, r, xs, hT, hR, hN, h => by
    simp only [fillA] at h
    cases hp : pl[i]? with
    | none => rw [hp] at h; cases h
    | some q =>
      obtain ⟨o, s⟩ := q
      rw [hp] at h
      simp only at h
      cases he : ev T x with
      | none => rw [he] at h; cases h
      | some u =>
        rw [he] at h
        simp only at h
        cases hb : (Nat.beq (cu u).length s && Nat.ble (o + s) N) with
        | false => rw [hb] at h; cases h
        | true =>
          rw [hb] at h
          simp only [Bool.and_eq_true] at hb
          have h1 : (cu u).length = s := Nat.eq_of_beq_eq_true hb.1
          have h2 : o + s ≤ cs.length := by rw [hN]; exact Nat.le_of_ble_eq_true hb.2
          have hr := (hT x (by simp) u he).cu
          have hsz : (a.eval x).cells.size = s := by have := hr.1; rw [Array.length_toList] at this; exact this.trans h1
          have hput : ∀ (vs : List Value) (off : Nat) (c0 : Array Value), off + vs.length ≤ c0.size → ((vs.toArray.zipIdx).foldl (fun cs (x : Value × Nat) => match x with | (c, j) => cs.setIfInBounds (off + j) c) c0) = (c0.toList.take off ++ vs ++ c0.toList.drop (off + vs.length)).toArray := by
            intro vs off c0
            have gen : ∀ (vs : List Value) (k : Nat) (c0 : Array Value), off + k + vs.length ≤ c0.size → ((vs.zipIdx k).foldl (fun cs (x : Value × Nat) => match x with | (c, j) => cs.setIfInBounds (off + j) c) c0) = (c0.toList.take (off + k) ++ vs ++ c0.toList.drop (off + k + vs.length)).toArray := by
              intro vs
              induction vs with
              | nil => intro k c0 _; simp
              | cons v vs ih =>
                intro k c0 hc
                simp only [List.length_cons] at hc
                simp only [List.zipIdx_cons, List.foldl_cons]
                rw [ih (k + 1) _ (by simp; omega)]
                have := list_seg_step c0.toList (off + k) v vs (by simp; omega)
                simp only [Array.toList_setIfInBounds, List.length_cons]
                rw [← Nat.add_assoc off k 1, this]
            intro hc
            have := gen vs 0 c0 (by simpa using hc)
            simp only [Nat.add_zero] at this
            rw [← this]
            rw [← Array.foldl_toList]
            simp
          have hv := hput (a.eval x).cells.toList o xs.toArray (by simp [hsz]; rw [hR.1]; exact h2)
          simp only [Array.toArray_toList] at hv
          have hR' : RVs E (spl cs o (cu u)) (xs.take o ++ (a.eval x).cells.toList ++ xs.drop (o + (a.eval x).cells.toList.length)) := by
            unfold spl
            rw [show (cu u).length = (a.eval x).cells.toList.length from hr.1.symm]
            exact ((hR.take o).append hr).append (hR.drop _)
          obtain ⟨ys, k1, k2⟩ := fillA_ok (P := P) rest _ r _ (fun y hy => hT y (by simp at hy ⊢; exact .inr hy)) hR' (by unfold spl; simp only [List.length_append, List.length_take, List.length_drop]; omega) h
          refine ⟨ys, ?_, k2⟩
          have hng : ¬ (o + s > xs.toArray.size) := by simp [hR.1]; omega
          simp only [List.map_cons, Instr.fill, hp, hsz, hv]
          simp only [ne_eq, not_true_eq_false, decide_false, Bool.false_or, decide_eq_true_eq, hng, if_false]
          exact k1
instance (cs : List AV) [h : CloL cs] : CloL (cu (.ag cs)) := h
instance (cs : List AV) [h : ValL cs] : ValL (cu (.ag cs)) := h
section
variable {P : Program} {k : Nat} {H : AH} {T : AT} {d : Option Tmp} {ty t : TypeId} {ps : String} {af : Array Edge} {gd : Option (Nat × Bool)}
theorem s_bld {l : List (Nat × Operand)} {z : List Value} {pl : List (Nat × Nat)} {cs ds : List AV} [hP : PI P t z pl] (h : fillA T pl z.length (z.map .v) l = some cs) (hd : cs = ds) : StepU P ⟨d, .build t l.toArray, ty, ps, af, gd⟩ k [] H T (.ag ds) [] :=
  .of_pure fun _ _ _ E a _ _ hT => by
    subst hd
    obtain ⟨ys, h1, h2⟩ := fillA_ok (P := P) (E := E) (a := a) l _ cs z (fun x hx => hT x (by simpa [Op.operands] using hx)) (RVs.vals z) (by simp) h
    refine ⟨.agg ys.toArray, ?_, agu_ag cs E ys h2⟩
    have hmap : (l.toArray.map fun (i, x) => (i, a.eval x)) = (l.map fun p => (p.1, a.eval p.2)).toArray := by simp
    simp only [execOp, hmap, Sem.run_bind, hP.h E.w _ _ h1, Result.andThen_ok, Sem.run_pure]
end
end Go.Proofs.Ytnghcfjejgdnlaa
