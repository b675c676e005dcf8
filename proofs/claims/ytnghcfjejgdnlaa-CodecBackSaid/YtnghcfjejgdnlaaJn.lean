/-
  The program logic: ways that meet; further operations. No condition.
-/
import Derived.Test.YtnghcfjejgdnlaaNm
set_option linter.unusedSimpArgs false
set_option linter.unusedVariables false
set_option linter.unusedSectionVars false
namespace Go.Proofs.Ytnghcfjejgdnlaa
open Go.RowKit

def jn {ι : Type} (I : ι → Prop) (kJ : Nat) (Hh : ι → AH) (Th : ι → AT) (Q : AQ) : AQ
  | .normal, k, H, T => ∃ j, I j ∧ Le k H T kJ (Hh j) (Th j)
  | e, k, H, T => Q e k H T
section
variable {P : Program} {n : Nat} {w0 : World} {M : Nat → Prop} {k : Nat} {H : AH} {T : AT} {Q : AQ} {ι : Type}
/-- the ways through x meet: behind x the state is told by one of ι -/
theorem Gol.join {x y : Code} (I : ι → Prop) (kJ : Nat) (Hh : ι → AH) (Th : ι → AT) (h : Gol P n w0 M x k H T (jn I kJ Hh Th Q)) (g : ∀ j, I j → Gol P n w0 M y kJ (Hh j) (Th j) Q) : Gol P n w0 M (.seq x y) k H T Q := fun a w hs =>
  wp_seq (wp_mono (h a w hs) fun e a' w' ⟨k', H', T', hs', hq⟩ => by
    cases e with
    | normal => obtain ⟨j, hj, hle⟩ := hq; exact g j hj a' w' (hle n w0 M a' w' hs')
    | _ => exact ⟨k', H', T', hs', hq⟩)
variable {I : ι → Prop} {kJ : Nat} {Hh : ι → AH} {Th : ι → AT}
theorem jn_x {j : Nat} (h : Q (.exit j) k H T) : jn I kJ Hh Th Q (.exit j) k H T := h
theorem jn_r (h : Q .ret k H T) : jn I kJ Hh Th Q .ret k H T := h
theorem jn_n (j : ι) (hj : I j) (hl : Le k H T kJ (Hh j) (Th j)) : jn I kJ Hh Th Q .normal k H T := ⟨j, hj, hl⟩
end
theorem Fresh.bool {P : Program} {f : FuncId} {args : List AV} {b b' : Bool} {bs : List ABlk} (h : Fresh P f args (fun _ => .v (.bool b')) bs) (e : b' = b) : Fresh P f args (fun _ => .v (.bool b)) bs := e ▸ h

/-! ### Equality of structs, bits -/
theorem agu_nm8 {n : UInt64} {cs : List AV} (h : cs = (nameC n).toList.map .v) : agu (.v (.agg (nameC n))) cs := h ▸ agu_v _
class EqR (P : Program) (t : TypeId) (x y : Array Value) (r : outParam Bool) : Prop where
  g : P.eqGuardType P.depth t = false
  h : ∀ w, (Op.equal t (.agg x) (.agg y)).run P w = .ok r w
section
variable {P : Program} {k : Nat} {H : AH} {T : AT} {d : Option Tmp} {ty t t' : TypeId} {ps : String} {af : Array Edge} {gd : Option (Nat × Bool)} {x y : Operand}
theorem guard_agg (op : BinOp) (x y : Operand) (a b : Array Value) (hg : P.eqGuardType P.depth t = false) (w : World) : (eqGuard op t x y (.agg a) (.agg b)).run P w = .ok () w := by
  cases op <;> simp [eqGuard, program, Sem.run, hg]
theorem s_eqR {a b : Array Value} {r : Bool} (hx : ev T x = some (.v (.agg a))) (hy : ev T y = some (.v (.agg b))) (h : EqR P t a b r) : StepU P ⟨d, .binOp .eql t x y t', ty, ps, af, gd⟩ k [] H T (.v (.bool r)) [] :=
  s_bin hx hy fun w => by simp only [guard_agg (P := P) .eql x y a b h.g, binOp, Sem.run_bind, h.h, Result.andThen_ok, Sem.run_pure]
theorem s_neR {a b : Array Value} {r : Bool} (hx : ev T x = some (.v (.agg a))) (hy : ev T y = some (.v (.agg b))) (h : EqR P t a b r) : StepU P ⟨d, .binOp .neq t x y t', ty, ps, af, gd⟩ k [] H T (.v (.bool (!r))) [] :=
  s_bin hx hy fun w => by simp only [guard_agg (P := P) .neq x y a b h.g, binOp, Sem.run_bind, h.h, Result.andThen_ok, Sem.run_pure]
inductive EqFs (P : Program) (w : World) (dd : Nat) (xs ys : Array Value) : List Field → List Bool → Prop
  | nil : EqFs P w dd xs ys [] []
  | cons {f : Field} {fs : List Field} {r : Bool} {rs : List Bool} {a b : Value} (hn : f.name ≠ "_") (pa : (part f.type xs f.offset).run P w = .ok a w) (pb : (part f.type ys f.offset).run P w = .ok b w)
      (e : (Op.equalIn dd f.type a b).run P w = .ok r w) (h : EqFs P w dd xs ys fs rs) : EqFs P w dd xs ys (f :: fs) (r :: rs)
theorem EqFs.run {w : World} {dd : Nat} {xs ys : Array Value} {fs : List Field} {rs : List Bool} (h : EqFs P w dd xs ys fs rs) : (Op.eqFields dd xs ys fs).run P w = .ok (rs.all id) w := by
  induction h with
  | nil => simp [Op.eqFields]
  | @cons f fs r rs a b hn pa pb e _ ih =>
    simp only [Op.eqFields, hn, ne_eq, not_false_eq_true, if_true, Sem.run_bind, pa, pb, e, Result.andThen_ok]
    cases r
    · simp
    · simpa using ih
theorem part_int {w : World} {e : TypeId} {kd : IntKind} {xs : Array Value} {o : Nat} {v : Value} (he : P.underlying e = some (.int kd)) (h : xs[o]? = some v) : (part e xs o).run P w = .ok v w := by
  have hag : (isAgg e).run P w = .ok false w := by unfold isAgg; rw [Sem.run_bind, run_underlying he w]; simp
  simp [part, Sem.run_bind, hag, h]
theorem part_name {w : World} {t e : TypeId} {xs : Array Value} {o : Nat} {v : UInt64} (ht : P.underlying t = some (.array 8 e)) (hs : (P.info? t).map (·.size) = some 8) (h : xs.extract o (o + 8) = nameC v) : (part t xs o).run P w = .ok (.agg (nameC v)) w := by
  have hag : (isAgg t).run P w = .ok true w := by unfold isAgg; rw [Sem.run_bind, run_underlying ht w]; simp
  simp [part, Sem.run_bind, hag, run_sizeOf' hs, h]
/-- bits of ints -/
def andNotI (a b : Int) : Int := IntKind.i64.wrap ((BitVec.ofInt 64 a &&& ~~~BitVec.ofInt 64 b).toNat : Int)
theorem s_andNotI {a b : Int} (hx : ev T x = some (.v (.int .i64 a))) (hy : ev T y = some (.v (.int .i64 b))) : StepU P ⟨d, .binOp .andNot t x y t', ty, ps, af, gd⟩ k [] H T (.v (.int .i64 (andNotI a b))) [] :=
  s_bin hx hy fun w => by simp only [guard_int, binOp, Op.intBits, Sem.run_bind, Result.andThen_ok, ne_eq, not_true_eq_false, if_false, Sem.run_pure]; rfl
end
theorem RetQ.bool {P : Program} {fn : Func} {b b' : Bool} {bs : List ABlk} {e : Exit} {k : Nat} {H : AH} {T : AT} (h : RetQ P fn (fun _ => .v (.bool b')) bs e k H T) (eq : b' = b) : RetQ P fn (fun _ => .v (.bool b)) bs e k H T := eq ▸ h
end Go.Proofs.Ytnghcfjejgdnlaa
