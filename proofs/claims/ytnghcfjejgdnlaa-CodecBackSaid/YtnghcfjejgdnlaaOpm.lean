/-
  The program logic's rules for single operations: variables in memory, pointers, loads and stores. No condition.
-/
import Derived.Test.YtnghcfjejgdnlaaOps
set_option linter.unusedSimpArgs false
set_option linter.unusedVariables false
set_option linter.unusedSectionVars false
namespace Go.Proofs.Ytnghcfjejgdnlaa
open Go.RowKit

/-- is the type a struct or an array, and how many cells has it? -/
class TI (P : Program) (t : TypeId) (ag : outParam Bool) (n : outParam Nat) : Prop where
  hag : ∀ w, (isAgg t).run P w = .ok ag w
  hsz : ∀ w, (sizeOf t).run P w = .ok n w
/-- what the type is -/
class UI (P : Program) (t : TypeId) (d : outParam TypeDesc) : Prop where
  u : P.underlying t = some d
/-- the type's zero value -/
class ZI (P : Program) (t : TypeId) (z : outParam Value) : Prop where
  hz : ∀ w, (zeroValue t).run P w = .ok z w
/-- a field's place -/
class FI (P : Program) (t : TypeId) (f : Nat) (off : outParam Nat) : Prop where
  hf : ∀ g o w, (Instr.fieldAt t (.pointer (some ⟨g, o, none⟩)) f).run P w = .ok (.pointer (some ⟨g, o + off, none⟩)) w
/-- an array type -/
class AI (P : Program) (t : TypeId) (n : outParam Nat) (size : outParam Nat) : Prop where
  hu : ∃ e, P.underlying t = some (.array n e) ∧ (P.info? e).map (·.size) = some size
/-- a slice type -/
class SI (P : Program) (t : TypeId) (e : outParam TypeId) (size bytes : outParam Nat) (z : outParam Value) : Prop where
  under : P.underlying t = some (.slice e)
  info : (P.info? e).map (fun i => (i.zero, i.size, i.bytes)) = some (some z, size, bytes)
  zs : z.cells.size = size
  pos : 0 < size
  bpos : 0 < bytes

/-- the cells of an abstract value -/
def cu : AV → List AV
  | .v X => X.cells.toList.map .v
  | .ag cs => cs
  | u => [u]
theorem RV.cu {E : Env} {u : AV} {x : Value} (h : RV E u x) : RVs E (cu u) x.cells.toList := by
  cases h with
  | v x => exact RVs.vals _
  | ag cs xs hl h => exact ⟨by simpa [Value.cells, Proofs.Ytnghcfjejgdnlaa.cu] using hl, fun j c x hc hx => h j c x hc (by simpa [Value.cells] using hx)⟩
  | tp cs xs hl h => exact RVs.cons (.tp cs xs hl h) (RVs.nil E)
  | pt b o g hb hg => exact RVs.cons (.pt b o g hb hg) (RVs.nil E)
  | sl b n hb hn => exact RVs.cons (.sl b n hb hn) (RVs.nil E)
  | sb b o n c A c' hb hA hn hc => exact RVs.cons (.sb b o n c A c' hb hA hn hc) (RVs.nil E)
  | sc b n c hb hc hn => exact RVs.cons (.sc b n c hb hc hn) (RVs.nil E)
  | ex0 n full A c hn hf => exact RVs.cons (.ex0 n full A c hn hf) (RVs.nil E)
  | ex n full cs g o c xs hn hf hg hS hl hx h => exact RVs.cons (.ex n full cs g o c xs hn hf hg hS hl hx h) (RVs.nil E)
  | ep cs g o xs hg hS hl hx h => exact RVs.cons (.ep cs g o xs hg hS hl hx h) (RVs.nil E)
  | fn f cs xs hl h => exact RVs.cons (.fn f cs xs hl h) (RVs.nil E)
/-- these cells, loaded as an array or struct, are u -/
def agu (u : AV) (cs : List AV) : Prop := ∀ (E : Env) (xs : List Value), RVs E cs xs → RV E u (.agg xs.toArray)
theorem agu_ag (cs : List AV) : agu (.ag cs) cs := fun E xs h => .ag cs _ (by simpa using h.1) (fun j c x hc hx => h.2 j c x hc (by simpa using hx))
theorem agu_vals (l : List Value) : agu (.v (.agg l.toArray)) (l.map .v) := fun E xs h => by
  have := h.vals_inv; subst this; exact .v _
theorem agu_v (X : Array Value) : agu (.v (.agg X)) (X.toList.map .v) := fun E xs h => by
  have := h.vals_inv; subst this; simp only [Array.toArray_toList]; exact .v _
theorem agu_cuv (X : Array Value) : agu (.v (.agg X)) (cu (.v (.agg X))) := agu_v X
theorem agu_cua (cs : List AV) : agu (.ag cs) (cu (.ag cs)) := agu_ag cs

theorem take_get {cs : Array Value} {n : Nat} {xs : List Value} (h : xs = cs.toList.take n) {j : Nat} {x : Value} (hx : xs[j]? = some x) : cs[j]? = some x := by
  subst h
  rw [List.getElem?_take] at hx
  split at hx
  · simpa using hx
  · cases hx

section
variable {P : Program} {k : Nat} {H : AH} {T : AT} {d : Option Tmp} {ty : TypeId} {ps : String} {af : Array Edge} {gd : Option (Nat × Bool)}

theorem s_alloc {t : TypeId} {z : Value} [hz : ZI P t z] : StepU P ⟨d, .alloc t, ty, ps, af, gd⟩ k [] H T (.pt k 0) [(k, some ⟨cu (.v z), t, z.cells.size⟩)] :=
  .of_alloc fun _ _ _ E a _ _ _ => by
    refine ⟨.pointer (some ⟨E.w.heap.size, 0, none⟩), z.cells, 1, ?_, by decide, by simp, by simp [cu], ?_, fun E' hl hd => .pt _ _ _ hd (by rw [hl])⟩
    · simp only [execOp, Instr.alloc, newVar, newRow, Sem.run_bind, hz.hz, Result.andThen_ok]
      rfl
    · simp only [cu, List.length_map, Array.length_toList]
      rw [List.take_of_length_le (by simp)]
      exact RVs.vals _
theorem s_box {t : TypeId} {x : Operand} {u : AV} {n : Nat} (hx : ev T x = some u) (hn : (cu u).length = n) : StepU P ⟨d, .box t x, ty, ps, af, gd⟩ k [] H T (.pt k 0) [(k, some ⟨cu u, t, n⟩)] :=
  .of_alloc fun _ _ _ E a _ _ hT => by
    have h1 := (hT x (by simp [Op.operands]) u hx).cu
    have hl : (a.eval x).cells.size = (cu u).length := by simpa using h1.1
    refine ⟨.pointer (some ⟨E.w.heap.size, 0, none⟩), (a.eval x).cells, 1, ?_, by decide, by simp [hl, hn], by simp [hl], ?_, fun E' hl hd => .pt _ _ _ hd (by rw [hl])⟩
    · simp only [execOp, Instr.box, newVar, newRow, Sem.run_bind]
      rfl
    · simp only [← hl]
      rw [List.take_of_length_le (by simp)]
      exact h1

theorem loadVar_cell {t : TypeId} {n : Nat} [ht : TI P t false n] {w : World} {g o : Nat} {x : Value} (hc : w.cell? ⟨g, o, none⟩ = some x) : (Instr.loadAt t (.pointer (some ⟨g, o, none⟩))).run P w = .ok x w := by
  simp [Instr.loadAt, Instr.sureAddr, loadVar, ht.hag, hc]
theorem loadVar_cells {t : TypeId} {n : Nat} [ht : TI P t true n] {w : World} {g o : Nat} {xs : List Value} (hl : xs.length = n) (hc : ∀ (j : Nat) x, xs[j]? = some x → w.cell? ⟨g, o + j, none⟩ = some x) :
    (Instr.loadAt t (.pointer (some ⟨g, o, none⟩))).run P w = .ok (.agg xs.toArray) w := by
  have := run_loadCells_list (P := P) w ⟨g, o, none⟩ xs (fun j v hv => by rw [addr_at]; exact hc j v hv)
  rw [hl] at this
  simp [Instr.loadAt, Instr.sureAddr, loadVar, ht.hag, ht.hsz, this]

theorem own_read {w0 : World} {M : Nat → Prop} {Hr : AH} {E : Env} (hs : Sta w0 M Hr E) {b g : Nat} {blk : ABlk} (hb : hk Hr b = some blk) (hg : (E.L b).g = some g) :
    ∃ xs : List Value, RVs E blk.cells xs ∧ ∀ (j : Nat) x, xs[j]? = some x → E.w.cell? ⟨g, j, none⟩ = some x := by
  obtain ⟨cs, c1, c2, c3, c4, c5⟩ := (hs.own b blk hb).2.2.at hg
  exact ⟨_, c5, fun j x hx => (cell_of_row E.w g j cs _ _ c1).trans (take_get rfl hx)⟩

theorem s_load {t : TypeId} {x : Operand} {n b o : Nat} {blk : ABlk} {c : AV} [TI P t false n] (hx : ev T x = some (.pt b o)) (hb : hk H b = some blk) (hc : blk.cells[o]? = some c) :
    StepU P ⟨d, .load t x, ty, ps, af, gd⟩ k [b] H T c [] :=
  .of_pure fun _ _ _ E a hs hU hT => by
    obtain ⟨g, e, hD, hg⟩ := (hT x (by simp [Op.operands]) _ hx).pt_inv
    obtain ⟨xs, h1, h2⟩ := own_read hs ((hU b (by simp)).trans hb) hg
    obtain ⟨y, hy, hr⟩ := h1.at hc
    exact ⟨y, by simp only [execOp, e, Sem.run_bind, loadVar_cell (P := P) (t := t) (h2 o y hy), Result.andThen_ok, Sem.run_pure], hr⟩
theorem s_loadN {t : TypeId} {x : Operand} {n b o : Nat} {blk : ABlk} {u : AV} [TI P t true n] (hx : ev T x = some (.pt b o)) (hb : hk H b = some blk) (hn : o + n ≤ blk.cells.length) (hu : agu u ((blk.cells.drop o).take n)) :
    StepU P ⟨d, .load t x, ty, ps, af, gd⟩ k [b] H T u [] :=
  .of_pure fun _ _ _ E a hs hU hT => by
    obtain ⟨g, e, hD, hg⟩ := (hT x (by simp [Op.operands]) _ hx).pt_inv
    obtain ⟨xs, h1, h2⟩ := own_read hs ((hU b (by simp)).trans hb) hg
    have h3 := (h1.drop o).take n
    have hl : ((xs.drop o).take n).length = n := by rw [List.length_take, List.length_drop, h1.1]; omega
    refine ⟨_, ?_, hu E _ h3⟩
    simp only [execOp, e, Sem.run_bind, loadVar_cells (P := P) (t := t) (g := g) (o := o) hl (fun j y hy => by
      rw [List.getElem?_take] at hy
      split at hy
      · rw [List.getElem?_drop] at hy; exact h2 _ y hy
      · cases hy), Result.andThen_ok, Sem.run_pure]
/-- the whole variable -/
theorem s_loadW {t : TypeId} {x : Operand} {n b : Nat} {blk : ABlk} {u : AV} [ht : TI P t true n] (hx : ev T x = some (.pt b 0)) (hb : hk H b = some blk) (hn : blk.cells.length = n) (hu : agu u blk.cells) :
    StepU P ⟨d, .load t x, ty, ps, af, gd⟩ k [b] H T u [] :=
  s_loadN hx hb (by omega) (by rw [List.drop_zero, List.take_of_length_le (by omega)]; exact hu)
/-- from memory that nobody changes -/
theorem ep_inv {E : Env} {cs : List AV} {y : Value} (h : RV E (.ep cs) y) : ∃ g o xs, y = .pointer (some ⟨g, o, none⟩) ∧ RVs E cs xs ∧ ∀ (j : Nat) x, xs[j]? = some x → E.w.cell? ⟨g, o + j, none⟩ = some x := by
  cases h with | ep cs g o xs hg hS hl hx h => exact ⟨g, o, xs, rfl, ⟨hl, h⟩, hx⟩
theorem s_loadE {t : TypeId} {x : Operand} {n : Nat} {cs : List AV} {c : AV} [TI P t false n] (hx : ev T x = some (.ep cs)) (hc : cs[0]? = some c) :
    StepU P ⟨d, .load t x, ty, ps, af, gd⟩ k [] H T c [] :=
  .of_pure fun _ _ _ E a _ _ hT => by
    obtain ⟨g, o, xs, e, h1, h2⟩ := ep_inv (hT x (by simp [Op.operands]) _ hx)
    obtain ⟨y, hy, hr⟩ := h1.at hc
    have h3 : E.w.cell? ⟨g, o, none⟩ = some y := h2 0 y hy
    exact ⟨y, by simp only [execOp, e, Sem.run_bind, loadVar_cell (P := P) (t := t) h3, Result.andThen_ok, Sem.run_pure], hr⟩
theorem s_loadEN {t : TypeId} {x : Operand} {n : Nat} {cs : List AV} {u : AV} [TI P t true n] (hx : ev T x = some (.ep cs)) (hn : n ≤ cs.length) (hu : agu u (cs.take n)) :
    StepU P ⟨d, .load t x, ty, ps, af, gd⟩ k [] H T u [] :=
  .of_pure fun _ _ _ E a _ _ hT => by
    obtain ⟨g, o, xs, e, h1, h2⟩ := ep_inv (hT x (by simp [Op.operands]) _ hx)
    have hl : (xs.take n).length = n := by rw [List.length_take, h1.1]; omega
    refine ⟨_, ?_, hu E _ (h1.take n)⟩
    simp only [execOp, e, Sem.run_bind, loadVar_cells (P := P) (t := t) (g := g) (o := o) hl (fun j y hy => by
      rw [List.getElem?_take] at hy
      split at hy
      · exact h2 _ y hy
      · cases hy), Result.andThen_ok, Sem.run_pure]

/-- cells put into cells -/
def spl (cs : List AV) (o : Nat) (ds : List AV) : List AV := cs.take o ++ ds ++ cs.drop (o + ds.length)
theorem spl_whole (cs ds : List AV) (h : cs.length = ds.length) : spl cs 0 ds = ds := by
  unfold spl; rw [List.take_zero, List.nil_append, Nat.zero_add, List.drop_eq_nil_of_le (by omega), List.append_nil]
theorem spl_length (cs : List AV) (o : Nat) (ds : List AV) (h : o + ds.length ≤ cs.length) : (spl cs o ds).length = cs.length := by
  simp [spl]; omega
theorem RVs.spl {E : Env} {cs ds : List AV} {cur : Array Value} {ys : List Value} {o : Nat} (hl : cs.length ≤ cur.size) (h : RVs E cs (cur.toList.take cs.length)) (k : RVs E ds ys) (ho : o + ds.length ≤ cs.length) :
    RVs E (spl cs o ds) ((cur.toList.take o ++ ys ++ cur.toList.drop (o + ys.length)).toArray.toList.take (spl cs o ds).length) := by
  rw [spl_length cs o ds ho]
  have e : (cur.toList.take o ++ ys ++ cur.toList.drop (o + ys.length)).toArray.toList.take cs.length = (cur.toList.take cs.length).take o ++ ys ++ (cur.toList.take cs.length).drop (o + ys.length) := by
    have hy := k.1
    apply List.ext_getElem?
    intro j
    simp only [List.getElem?_take, List.getElem?_append, List.length_append, List.length_take, List.getElem?_drop, Array.length_toList]
    have m1 : min o cur.size = o := by omega
    have m2 : min o (min cs.length cur.size) = o := by omega
    simp only [m1, m2]
    by_cases h1 : j < cs.length
    · by_cases h2 : j < o
      · have h3 : j < o + ys.length := by omega
        simp [h1, h2, h3]
      · by_cases h3 : j < o + ys.length
        · simp [h1, h2, h3]
        · have h4 : o + ys.length + (j - (o + ys.length)) = j := by omega
          simp [h1, h3, h4]
    · have h2 : ¬ j < o := by omega
      have h3 : ¬ j < o + ys.length := by omega
      have h4 : o + ys.length + (j - (o + ys.length)) = j := by omega
      simp [h1, h3, h4]
  rw [e]
  unfold Proofs.Ytnghcfjejgdnlaa.spl
  have := (((h.take o).append k).append (h.drop (o + ds.length)))
  rw [k.1]
  exact this

theorem s_store {t : TypeId} {x y : Operand} {n b o : Nat} {ag : Bool} {blk : ABlk} {u : AV} [ht : TI P t ag n] (hx : ev T x = some (.pt b o)) (hy : ev T y = some u) (hb : hk H b = some blk) (hn : (cu u).length = n) (h1 : (cu u).all AV.one = true) (ho : o + n ≤ blk.cells.length) :
    StepU P ⟨d, .store t x y, ty, ps, af, gd⟩ k [b] H T (.v undef) [(b, some { blk with cells := spl blk.cells o (cu u) })] :=
  .of_set hb (by simp) fun _ _ _ E a hs hU hT => by
    obtain ⟨g, e, hD, hg⟩ := (hT x (by simp [Op.operands]) _ hx).pt_inv
    obtain ⟨cs, c1, c2, c3, c4, c5⟩ := (hs.own b blk ((hU b (by simp)).trans hb)).2.2.at hg
    have hv := (hT y (by simp [Op.operands]) _ hy).cu
    have hvl : (a.eval y).cells.toList.length = n := by rw [hv.1]; exact hn
    have hst := run_storeCells_at P g o blk.elem (a.eval y).cells.toList 0 cs E.w c1 (by omega) (hv.ones h1)
    simp only [Nat.add_zero] at hst
    refine ⟨g, undef, _, hg, .inr ⟨?_, rfl⟩, fun cs' hcs' => ?_, ?_, RVs.spl c4 c5 hv (by omega), .v _⟩
    · have hsz' : (a.eval y).cells.size = n := by simpa using hvl
      simp only [execOp, e, Instr.storeAt, Instr.sureAddr, storeVar, Sem.run_bind, Sem.run_pure, Result.andThen_ok, ht.hsz, hsz', ne_eq, not_true_eq_false, if_false, hst]
    · rw [c1] at hcs'; injection hcs' with hcs'; injection hcs' with hcs'; subst hcs'
      simp only [List.size_toArray, List.length_append, List.length_take, List.length_drop, hvl, Array.length_toList]; omega
    · rw [spl_length _ _ _ (by omega)]
      simp only [List.size_toArray, List.length_append, List.length_take, List.length_drop, hvl, Array.length_toList]; omega
/-- the whole variable -/
theorem s_storeW {t : TypeId} {x y : Operand} {n b : Nat} {ag : Bool} {blk : ABlk} {u : AV} [ht : TI P t ag n] (hx : ev T x = some (.pt b 0)) (hy : ev T y = some u) (hb : hk H b = some blk) (hn : (cu u).length = n) (h1 : (cu u).all AV.one = true) (ho : blk.cells.length = n) :
    StepU P ⟨d, .store t x y, ty, ps, af, gd⟩ k [b] H T (.v undef) [(b, some { blk with cells := cu u })] := by
  have := s_store (P := P) (k := k) (H := H) (T := T) (d := d) (ty := ty) (ps := ps) (af := af) (gd := gd) (t := t) hx hy hb hn h1 (by omega)
  rwa [spl_whole _ _ (by omega)] at this

theorem s_fieldAddr {t : TypeId} {x : Operand} {f off b o : Nat} [hf : FI P t f off] (hx : ev T x = some (.pt b o)) : StepU P ⟨d, .fieldAddr t x f, ty, ps, af, gd⟩ k [] H T (.pt b (o + off)) [] :=
  .of_pure fun _ _ _ E a hs hU hT => by
    obtain ⟨g, e, hD, hg⟩ := (hT x (by simp [Op.operands]) _ hx).pt_inv
    exact ⟨_, by simp only [execOp, e, Sem.run_bind, hf.hf, Result.andThen_ok, Sem.run_pure], .pt _ _ _ hD hg⟩
theorem ep_drop {E : Env} {cs : List AV} {g o : Nat} (h : RV E (.ep cs) (.pointer (some ⟨g, o, none⟩))) (n : Nat) : RV E (.ep (cs.drop n)) (.pointer (some ⟨g, o + n, none⟩)) := by
  cases h with
  | ep cs g o xs hg hS hl hx h =>
    have hr := (RVs.drop (E := E) ⟨hl, h⟩ n)
    exact .ep _ g (o + n) (xs.drop n) hg hS hr.1 (fun j x hj => by rw [List.getElem?_drop] at hj; rw [Nat.add_assoc]; exact hx _ x hj) hr.2
theorem s_fieldAddrE {t : TypeId} {x : Operand} {f off : Nat} {cs : List AV} [hf : FI P t f off] (hx : ev T x = some (.ep cs)) : StepU P ⟨d, .fieldAddr t x f, ty, ps, af, gd⟩ k [] H T (.ep (cs.drop off)) [] :=
  .of_pure fun _ _ _ E a hs hU hT => by
    have h1 := hT x (by simp [Op.operands]) _ hx
    obtain ⟨g, o, xs, e, _, _⟩ := ep_inv h1
    rw [e] at h1
    exact ⟨_, by simp only [execOp, e, Sem.run_bind, hf.hf, Result.andThen_ok, Sem.run_pure], ep_drop h1 off⟩
end
end Go.Proofs.Ytnghcfjejgdnlaa
