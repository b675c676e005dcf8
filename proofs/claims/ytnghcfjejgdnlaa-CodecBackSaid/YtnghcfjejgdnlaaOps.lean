/-
  The program logic's rules for single operations: values, own variables, reading. No condition.
-/
import Derived.Test.YtnghcfjejgdnlaaStep
set_option linter.unusedSimpArgs false
set_option linter.unusedVariables false
set_option linter.unusedSectionVars false
namespace Go.Proofs.Ytnghcfjejgdnlaa
open Go.RowKit

theorem RV.v_inv {E : Env} {X y : Value} (h : RV E (.v X) y) : y = X := by cases h; rfl
theorem RV.pt_inv {E : Env} {b o : Nat} {y : Value} (h : RV E (.pt b o) y) : ∃ g, y = .pointer (some ⟨g, o, none⟩) ∧ E.D b ∧ (E.L b).g = some g := by
  cases h with | pt b o g hb hg => exact ⟨g, rfl, hb, hg⟩
theorem addr_at (g o j : Nat) : (⟨g, o, none⟩ : Addr).add j = ⟨g, o + j, none⟩ := by unfold Addr.add; split <;> simp_all

section
variable {P : Program} {k : Nat} {H : AH} {T : AT} {d : Option Tmp} {ty : TypeId} {ps : String} {af : Array Edge} {gd : Option (Nat × Bool)}

theorem StepU.of_pure {o : Oper} {U : List Nat} {v : AV}
    (h : ∀ (w0 : World) (M : Nat → Prop) (Hr : AH) (E : Env) (a : Act), Sta w0 M Hr E → (∀ b ∈ U, hk Hr b = hk H b) → (∀ x ∈ o.op.operands, ∀ u, ev T x = some u → RV E u (a.eval x)) →
      ∃ x, (execOp a.eval o).run P E.w = .ok (.value x) E.w ∧ RV E v x) : StepU P o k U H T v [] := by
  refine ⟨fun w0 M Hr E a hs hU _ hT K Q hK => ?_⟩
  obtain ⟨x, hr, hx⟩ := h w0 M Hr E a hs hU hT
  unfold Oper.wp
  rw [hr]
  exact hK x E hs (.refl E) (fun b hb => .inl hb) hx

theorem StepU.of_new {o : Oper} {U : List Nat} {v : AV} {blk : ABlk}
    (h : ∀ (w0 : World) (M : Nat → Prop) (Hr : AH) (E : Env) (a : Act), Sta w0 M Hr E → (∀ b ∈ U, hk Hr b = hk H b) → (∀ x ∈ o.op.operands, ∀ u, ev T x = some u → RV E u (a.eval x)) →
      ∃ x w' l, (execOp a.eval o).run P E.w = .ok (.value x) w' ∧ Below E.w.heap.size E.w w' ∧ (∀ g, l.g = some g → E.w.heap.size ≤ g) ∧ (∀ E' : Env, E'.w = w' → E.le E' → BOK E' l blk) ∧
        (∀ E' : Env, E'.L k = l → E'.D k → RV E' v x)) : StepU P o k U H T v [(k, some blk)] := by
  refine ⟨fun w0 M Hr E a hs hU hk0 hT K Q hK => ?_⟩
  obtain ⟨x, w', l, hr, hb, hl, hB, hx⟩ := h w0 M Hr E a hs hU hT
  obtain ⟨h1, h2⟩ := hs.new (hk0 k (Nat.le_refl _) (by omega)) w' l blk hb.size hb.block hb.os hb.tape hb.output hl hB
  unfold Oper.wp
  rw [hr]
  exact hK x _ h1 h2 (fun b hb => hb.imp id (fun e => ⟨by omega, by omega⟩)) (hx _ (by simp [Env.new]) (.inr rfl))

theorem below_alloc (w : World) (o : Obj) : Below w.heap.size w (w.alloc o) := (Below.refl _ _).alloc (Nat.le_refl _) o

theorem StepU.of_alloc {o : Oper} {U : List Nat} {v : AV} {blk : ABlk}
    (h : ∀ (w0 : World) (M : Nat → Prop) (Hr : AH) (E : Env) (a : Act), Sta w0 M Hr E → (∀ b ∈ U, hk Hr b = hk H b) → (∀ x ∈ o.op.operands, ∀ u, ev T x = some u → RV E u (a.eval x)) →
      ∃ x cs c, (execOp a.eval o).run P E.w = .ok (.value x) (E.w.alloc (.cells cs blk.elem)) ∧ c ≤ maxLen ∧ cs.size = c * blk.sz ∧ blk.cells.length ≤ cs.size ∧ RVs E blk.cells (cs.toList.take blk.cells.length) ∧
        (∀ E' : Env, E'.L k = ⟨some E.w.heap.size, c⟩ → E'.D k → RV E' v x)) : StepU P o k U H T v [(k, some blk)] :=
  .of_new fun w0 M Hr E a hs hU hT => by
    obtain ⟨x, cs, c, hr, hc, h1, h2, h3, h4⟩ := h w0 M Hr E a hs hU hT
    refine ⟨x, _, ⟨some E.w.heap.size, c⟩, hr, below_alloc _ _, fun g e => by simp at e; omega, fun E' hw hle => .mk rfl ⟨cs, ?_, hc, h1, h2, h3.mono hle⟩, h4⟩
    rw [hw]; exact heap_alloc_new _ _

/-- a write into own block b -/
theorem StepU.of_set {o : Oper} {U : List Nat} {v : AV} {b : Nat} {blk : ABlk} {cells : List AV} (hb : hk H b = some blk) (hbU : b ∈ U)
    (h : ∀ (w0 : World) (M : Nat → Prop) (Hr : AH) (E : Env) (a : Act), Sta w0 M Hr E → (∀ b ∈ U, hk Hr b = hk H b) → (∀ x ∈ o.op.operands, ∀ u, ev T x = some u → RV E u (a.eval x)) →
      ∃ g x cs', (E.L b).g = some g ∧ (((execOp a.eval o).run P E.w = .ok (.value x) (E.w.setRow g cs')) ∨ ((execOp a.eval o).run P E.w = .ok .skip (E.w.setRow g cs') ∧ x = undef)) ∧
        (∀ cs, E.w.heap[g]? = some (.cells cs blk.elem (0, 0)) → cs'.size = cs.size) ∧ cells.length ≤ cs'.size ∧ RVs E cells (cs'.toList.take cells.length) ∧ RV E v x) : StepU P o k U H T v [(b, some { blk with cells := cells })] := by
  refine ⟨fun w0 M Hr E a hs hU _ hT K Q hK => ?_⟩
  obtain ⟨g, x, cs', hg, hr, hsz, hl, hcs, hx⟩ := h w0 M Hr E a hs hU hT
  have hb' : hk Hr b = some blk := (hU b hbU).trans hb
  obtain ⟨cs, c1, c2, c3, c4, c5⟩ := (hs.own b blk hb').2.2.at hg
  have hheap : (E.w.setRow g cs').heap[g]? = some (.cells cs' blk.elem (0, 0)) := setRow_heap E.w g cs cs' _ _ c1
  obtain ⟨h1, h2⟩ := hs.set hb' hg (E.w.setRow g cs') (by simp [World.setRow]) (fun g' hne => setRow_other E.w g g' cs' hne) rfl rfl rfl cells
    (fun E' hw hle => .mk hg ⟨cs', by rw [hw]; exact hheap, c2, by rw [hsz cs c1]; exact c3, hl, hcs.mono hle⟩)
  unfold Oper.wp
  rcases hr with hr | ⟨hr, rfl⟩
  · rw [hr]; exact hK x _ h1 h2 (fun b hb => .inl hb) (hx.mono h2)
  · rw [hr]; exact hK undef _ h1 h2 (fun b hb => .inl hb) (hx.mono h2)

/-! ### Values -/
theorem s_move {x : Operand} {u : AV} (hx : ev T x = some u) : StepU P ⟨d, .move x, ty, ps, af, gd⟩ k [] H T u [] :=
  .of_pure fun _ _ _ E a _ _ hT => ⟨a.eval x, rfl, hT x (by simp [Op.operands]) u hx⟩
theorem s_assign {x : Operand} {u : AV} (hx : ev T x = some u) : StepU P ⟨d, .assign x, ty, ps, af, gd⟩ k [] H T u [] :=
  .of_pure fun _ _ _ E a _ _ hT => ⟨a.eval x, rfl, hT x (by simp [Op.operands]) u hx⟩
theorem s_pick_t {c x y : Operand} {u : AV} {t : Bool} (hc : ev T c = some (.v (.bool t))) (ht : t = true) (hx : ev T x = some u) : StepU P ⟨d, .pick c x y, ty, ps, af, gd⟩ k [] H T u [] :=
  .of_pure fun _ _ _ E a _ _ hT => ⟨a.eval x, by
    have := (hT c (by simp [Op.operands]) _ hc).v_inv
    subst ht
    simp [execOp, this, asBool], hT x (by simp [Op.operands]) u hx⟩
theorem s_pick_f {c x y : Operand} {u : AV} {t : Bool} (hc : ev T c = some (.v (.bool t))) (ht : t = false) (hy : ev T y = some u) : StepU P ⟨d, .pick c x y, ty, ps, af, gd⟩ k [] H T u [] :=
  .of_pure fun _ _ _ E a _ _ hT => ⟨a.eval y, by
    have := (hT c (by simp [Op.operands]) _ hc).v_inv
    subst ht
    simp [execOp, this, asBool], hT y (by simp [Op.operands]) u hy⟩
theorem s_bin {op : BinOp} {t t' : TypeId} {x y : Operand} {X Y R : Value} (hx : ev T x = some (.v X)) (hy : ev T y = some (.v Y))
    (h : ∀ w, (do eqGuard op t x y X Y; binOp op t X Y : Sem Value).run P w = .ok R w) : StepU P ⟨d, .binOp op t x y t', ty, ps, af, gd⟩ k [] H T (.v R) [] :=
  .of_pure fun _ _ _ E a _ _ hT => ⟨R, by
    have h1 := (hT x (by simp [Op.operands]) _ hx).v_inv
    have h2 := (hT y (by simp [Op.operands]) _ hy).v_inv
    have := h E.w
    simp only [Sem.run_bind] at this
    simp only [execOp, h1, h2, Sem.run_bind, this, Result.andThen_ok, Sem.run_pure], .v R⟩
theorem s_un {op : UnOp} {t : TypeId} {x : Operand} {X R : Value} (hx : ev T x = some (.v X)) (h : ∀ w, (Op.unary op X).run P w = .ok R w) : StepU P ⟨d, .unOp op t x, ty, ps, af, gd⟩ k [] H T (.v R) [] :=
  .of_pure fun _ _ _ E a _ _ hT => ⟨R, by
    have h1 := (hT x (by simp [Op.operands]) _ hx).v_inv
    simp only [execOp, h1, Sem.run_bind, h E.w, Result.andThen_ok, Sem.run_pure], .v R⟩
theorem s_conv {s t : TypeId} {x : Operand} {X R : Value} (hx : ev T x = some (.v X)) (h : ∀ w, (convert s t X).run P w = .ok R w) : StepU P ⟨d, .convert s t x, ty, ps, af, gd⟩ k [] H T (.v R) [] :=
  .of_pure fun _ _ _ E a _ _ hT => ⟨R, by
    have h1 := (hT x (by simp [Op.operands]) _ hx).v_inv
    simp only [execOp, h1, Sem.run_bind, h E.w, Result.andThen_ok, Sem.run_pure], .v R⟩
theorem s_field {t : TypeId} {x : Operand} {f : Nat} {X R : Value} (hx : ev T x = some (.v X)) (h : ∀ w, (Instr.field t X f).run P w = .ok R w) : StepU P ⟨d, .field t x f, ty, ps, af, gd⟩ k [] H T (.v R) [] :=
  .of_pure fun _ _ _ E a _ _ hT => ⟨R, by
    have h1 := (hT x (by simp [Op.operands]) _ hx).v_inv
    simp only [execOp, h1, Sem.run_bind, h E.w, Result.andThen_ok, Sem.run_pure], .v R⟩
theorem s_index {t : TypeId} {x y : Operand} {X Y R : Value} (hx : ev T x = some (.v X)) (hy : ev T y = some (.v Y)) (h : ∀ w, (Instr.index t X Y).run P w = .ok R w) : StepU P ⟨d, .index t x y, ty, ps, af, gd⟩ k [] H T (.v R) [] :=
  .of_pure fun _ _ _ E a _ _ hT => ⟨R, by
    have h1 := (hT x (by simp [Op.operands]) _ hx).v_inv
    have h2 := (hT y (by simp [Op.operands]) _ hy).v_inv
    simp only [execOp, h1, h2, Sem.run_bind, h E.w, Result.andThen_ok, Sem.run_pure], .v R⟩
theorem s_extract {x : Operand} {i : Nat} {vs : List AV} {u : AV} (hx : ev T x = some (.tp vs)) (hi : vs[i]? = some u) : StepU P ⟨d, .extract x i, ty, ps, af, gd⟩ k [] H T u [] :=
  .of_pure fun _ _ _ E a _ _ hT => by
    have h1 := hT x (by simp [Op.operands]) _ hx
    generalize hy : a.eval x = y at h1
    cases h1 with
    | tp cs xs hl h =>
      have hlt : i < xs.size := by rw [hl]; exact (List.getElem?_eq_some_iff.1 hi).1
      refine ⟨xs[i], ?_, h i u _ hi (Array.getElem?_eq_getElem hlt)⟩
      simp [execOp, hy, Instr.extract, hlt]
theorem s_nilCheck {x : Operand} {u : AV} (hx : ev T x = some u) (hu : (match u with | .pt _ _ | .ep _ => true | _ => false) = true) : StepU P ⟨d, .nilCheck x, ty, ps, af, gd⟩ k [] H T u [] :=
  .of_pure fun _ _ _ E a _ _ hT => by
    have h1 := hT x (by simp [Op.operands]) _ hx
    refine ⟨a.eval x, ?_, h1⟩
    generalize hy : a.eval x = y at h1
    cases h1 <;> simp at hu <;> simp [execOp, hy]
/-- a value made of values -/
def evV (T : AT) (x : Operand) : Value := match ev T x with | some (.v X) => X | _ => undef
def isV (T : AT) (x : Operand) : Bool := match ev T x with | some (.v _) => true | _ => false
theorem evV_eq {E : Env} {a : Act} {x : Operand} (h : isV T x = true) (hT : ∀ u, ev T x = some u → RV E u (a.eval x)) : a.eval x = evV T x := by
  unfold isV at h
  unfold evV
  split at h
  · rename_i X e; exact (hT _ e).v_inv
  · cases h
theorem evV_parts {E : Env} {a : Act} {l : List (Nat × Operand)} (hp : l.all (fun p => isV T p.2) = true) (hT : ∀ x ∈ l.map (·.2), ∀ u, ev T x = some u → RV E u (a.eval x)) :
    (l.toArray.map fun (i, x) => (i, a.eval x)) = (l.map fun p => (p.1, evV T p.2)).toArray := by
  simp only [List.map_toArray]
  congr 1
  refine List.map_congr_left fun p hp' => ?_
  have := evV_eq (E := E) (a := a) (List.all_eq_true.1 hp p hp') (hT p.2 (List.mem_map.2 ⟨p, hp', rfl⟩))
  simp [this]
theorem s_build {t : TypeId} {l : List (Nat × Operand)} {R : Value} (hp : l.all (fun p => isV T p.2) = true) (h : ∀ w, (Instr.build t (l.map fun p => (p.1, evV T p.2)).toArray).run P w = .ok R w) :
    StepU P ⟨d, .build t l.toArray, ty, ps, af, gd⟩ k [] H T (.v R) [] :=
  .of_pure fun _ _ _ E a _ _ hT => ⟨R, by
    have h1 := evV_parts (E := E) (a := a) hp (fun x hx => hT x (by simpa [Op.operands] using hx))
    simp only [execOp, h1, Sem.run_bind, h E.w, Result.andThen_ok, Sem.run_pure], .v R⟩
/-- a builtin on values that leaves memory alone (min, max, len of a string) -/
theorem s_builtin {b : Builtin} {l : List Operand} {ts : Array TypeId} {R : Value} (hp : l.all (isV T) = true)
    (h : ∀ cs w, (builtin b ts ty cs (l.map (evV T)).toArray).run P w = .ok (.value R) w) :
    StepU P ⟨d, .call { callee := .builtin b, args := l.toArray, argTypes := ts }, ty, ps, af, gd⟩ k [] H T (.v R) [] :=
  .of_pure fun _ _ _ E a _ _ hT => ⟨R, by
    have h1 : l.toArray.map a.eval = (l.map (evV T)).toArray := by
      simp only [List.map_toArray]
      congr 1
      exact List.map_congr_left fun x hx => evV_eq (E := E) (List.all_eq_true.1 hp x hx) (hT x (by simpa [Op.operands, Call.operands] using hx))
    simp only [execOp, resolve, invoke, Sem.run_bind, Sem.run_pure, Result.andThen_ok, h1]
    exact h _ E.w, .v R⟩
end
end Go.Proofs.Ytnghcfjejgdnlaa
