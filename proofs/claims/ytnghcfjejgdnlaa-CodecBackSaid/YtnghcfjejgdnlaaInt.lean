/-
  The program logic's rules for numbers, names and strings. No condition.
-/
import Derived.Test.YtnghcfjejgdnlaaFun2
set_option linter.unusedSimpArgs false
set_option linter.unusedVariables false
set_option linter.unusedSectionVars false
namespace Go.Proofs.Ytnghcfjejgdnlaa
open Go.RowKit

section
variable {P : Program} {k : Nat} {H : AH} {T : AT} {d : Option Tmp} {ty t t' : TypeId} {ps : String} {af : Array Edge} {gd : Option (Nat × Bool)} {x y : Operand}
theorem guard_int (op : BinOp) (x y : Operand) (k1 k2 : IntKind) (a b : Int) (w : World) : (eqGuard op t x y (.int k1 a) (.int k2 b)).run P w = .ok () w := by
  cases op <;> simp [eqGuard]
theorem i64w {n : Int} (h : -9223372036854775808 ≤ n ∧ n ≤ 9223372036854775807) : IntKind.i64.wrap n = n := by rw [IntKind.wrap_i64]; omega

theorem s_addn {i j : Nat} (hx : ev T x = some (.v (.int .i64 (i : Int)))) (hy : ev T y = some (.v (.int .i64 (j : Int)))) (h : i + j ≤ 9223372036854775807) : StepU P ⟨d, .binOp .add t x y t', ty, ps, af, gd⟩ k [] H T (.v (.int .i64 ((i + j : Nat) : Int))) [] :=
  s_bin hx hy fun w => by simp [guard_int, binOp, Op.intArith, Sem.run_bind]; rw [i64w (by omega)]
theorem s_add {a b : Int} (hx : ev T x = some (.v (.int .i64 a))) (hy : ev T y = some (.v (.int .i64 b))) (h : -9223372036854775808 ≤ a + b ∧ a + b ≤ 9223372036854775807) : StepU P ⟨d, .binOp .add t x y t', ty, ps, af, gd⟩ k [] H T (.v (.int .i64 (a + b))) [] :=
  s_bin hx hy fun w => by simp [guard_int, binOp, Op.intArith, Sem.run_bind, i64w h]
theorem s_subn {i j : Nat} (hx : ev T x = some (.v (.int .i64 (i : Int)))) (hy : ev T y = some (.v (.int .i64 (j : Int)))) (h : j ≤ i) (h2 : i ≤ 9223372036854775807) : StepU P ⟨d, .binOp .sub t x y t', ty, ps, af, gd⟩ k [] H T (.v (.int .i64 ((i - j : Nat) : Int))) [] :=
  s_bin hx hy fun w => by simp [guard_int, binOp, Op.intArith, Sem.run_bind]; rw [i64w (by omega)]; omega
theorem s_sub {a b : Int} (hx : ev T x = some (.v (.int .i64 a))) (hy : ev T y = some (.v (.int .i64 b))) (h : -9223372036854775808 ≤ a - b ∧ a - b ≤ 9223372036854775807) : StepU P ⟨d, .binOp .sub t x y t', ty, ps, af, gd⟩ k [] H T (.v (.int .i64 (a - b))) [] :=
  s_bin hx hy fun w => by simp [guard_int, binOp, Op.intArith, Sem.run_bind, i64w h]
theorem s_muln {i j : Nat} (hx : ev T x = some (.v (.int .i64 (i : Int)))) (hy : ev T y = some (.v (.int .i64 (j : Int)))) (h : i * j ≤ 9223372036854775807) : StepU P ⟨d, .binOp .mul t x y t', ty, ps, af, gd⟩ k [] H T (.v (.int .i64 ((i * j : Nat) : Int))) [] :=
  s_bin hx hy fun w => by simp [guard_int, binOp, Op.intArith, Sem.run_bind]; rw [← Int.natCast_mul, i64w (by omega)]
theorem s_ltn {k1 : IntKind} {i j : Nat} (hx : ev T x = some (.v (.int k1 (i : Int)))) (hy : ev T y = some (.v (.int k1 (j : Int)))) : StepU P ⟨d, .binOp .lss t x y t', ty, ps, af, gd⟩ k [] H T (.v (.bool (decide (i < j)))) [] :=
  s_bin hx hy fun w => by simp [guard_int, binOp, Op.intCmp, Sem.run_bind]
theorem s_lt {k1 : IntKind} {a b : Int} (hx : ev T x = some (.v (.int k1 a))) (hy : ev T y = some (.v (.int k1 b))) : StepU P ⟨d, .binOp .lss t x y t', ty, ps, af, gd⟩ k [] H T (.v (.bool (decide (a < b)))) [] :=
  s_bin hx hy fun w => by simp [guard_int, binOp, Op.intCmp, Sem.run_bind]
theorem s_len' {k1 : IntKind} {i j : Nat} (hx : ev T x = some (.v (.int k1 (i : Int)))) (hy : ev T y = some (.v (.int k1 (j : Int)))) : StepU P ⟨d, .binOp .leq t x y t', ty, ps, af, gd⟩ k [] H T (.v (.bool (decide (i ≤ j)))) [] :=
  s_bin hx hy fun w => by simp [guard_int, binOp, Op.intCmp, Sem.run_bind]
theorem s_le {k1 : IntKind} {a b : Int} (hx : ev T x = some (.v (.int k1 a))) (hy : ev T y = some (.v (.int k1 b))) : StepU P ⟨d, .binOp .leq t x y t', ty, ps, af, gd⟩ k [] H T (.v (.bool (decide (a ≤ b)))) [] :=
  s_bin hx hy fun w => by simp [guard_int, binOp, Op.intCmp, Sem.run_bind]
theorem s_gtn {k1 : IntKind} {i j : Nat} (hx : ev T x = some (.v (.int k1 (i : Int)))) (hy : ev T y = some (.v (.int k1 (j : Int)))) : StepU P ⟨d, .binOp .gtr t x y t', ty, ps, af, gd⟩ k [] H T (.v (.bool (decide (j < i)))) [] :=
  s_bin hx hy fun w => by simp [guard_int, binOp, Op.intCmp, Sem.run_bind]
theorem s_gt {k1 : IntKind} {a b : Int} (hx : ev T x = some (.v (.int k1 a))) (hy : ev T y = some (.v (.int k1 b))) : StepU P ⟨d, .binOp .gtr t x y t', ty, ps, af, gd⟩ k [] H T (.v (.bool (decide (b < a)))) [] :=
  s_bin hx hy fun w => by simp [guard_int, binOp, Op.intCmp, Sem.run_bind]
theorem s_gen {k1 : IntKind} {i j : Nat} (hx : ev T x = some (.v (.int k1 (i : Int)))) (hy : ev T y = some (.v (.int k1 (j : Int)))) : StepU P ⟨d, .binOp .geq t x y t', ty, ps, af, gd⟩ k [] H T (.v (.bool (decide (j ≤ i)))) [] :=
  s_bin hx hy fun w => by simp [guard_int, binOp, Op.intCmp, Sem.run_bind]
theorem s_ge {k1 : IntKind} {a b : Int} (hx : ev T x = some (.v (.int k1 a))) (hy : ev T y = some (.v (.int k1 b))) : StepU P ⟨d, .binOp .geq t x y t', ty, ps, af, gd⟩ k [] H T (.v (.bool (decide (b ≤ a)))) [] :=
  s_bin hx hy fun w => by simp [guard_int, binOp, Op.intCmp, Sem.run_bind]
theorem s_eqn {k1 : IntKind} {i j : Nat} (hx : ev T x = some (.v (.int k1 (i : Int)))) (hy : ev T y = some (.v (.int k1 (j : Int)))) : StepU P ⟨d, .binOp .eql t x y t', ty, ps, af, gd⟩ k [] H T (.v (.bool (decide (i = j)))) [] :=
  s_bin hx hy fun w => by
    simp only [guard_int, binOp, Op.intCmp, Sem.run_bind, Result.andThen_ok, ne_eq, not_true_eq_false, if_false, Sem.run_pure]
    by_cases h : i = j
    · simp [h]
    · simp [h]; omega
theorem s_eq {k1 : IntKind} {a b : Int} (hx : ev T x = some (.v (.int k1 a))) (hy : ev T y = some (.v (.int k1 b))) : StepU P ⟨d, .binOp .eql t x y t', ty, ps, af, gd⟩ k [] H T (.v (.bool (decide (a = b)))) [] :=
  s_bin hx hy fun w => by
    simp only [guard_int, binOp, Op.intCmp, Sem.run_bind, Result.andThen_ok, ne_eq, not_true_eq_false, if_false, Sem.run_pure]
    by_cases h : a = b <;> simp [h]
theorem s_nen {k1 : IntKind} {i j : Nat} (hx : ev T x = some (.v (.int k1 (i : Int)))) (hy : ev T y = some (.v (.int k1 (j : Int)))) : StepU P ⟨d, .binOp .neq t x y t', ty, ps, af, gd⟩ k [] H T (.v (.bool (!decide (i = j)))) [] :=
  s_bin hx hy fun w => by
    simp only [guard_int, binOp, Op.intCmp, Sem.run_bind, Result.andThen_ok, ne_eq, not_true_eq_false, if_false, Sem.run_pure]
    by_cases h : i = j
    · simp [h]
    · simp [h]; omega
theorem s_ne {k1 : IntKind} {a b : Int} (hx : ev T x = some (.v (.int k1 a))) (hy : ev T y = some (.v (.int k1 b))) : StepU P ⟨d, .binOp .neq t x y t', ty, ps, af, gd⟩ k [] H T (.v (.bool (!decide (a = b)))) [] :=
  s_bin hx hy fun w => by
    simp only [guard_int, binOp, Op.intCmp, Sem.run_bind, Result.andThen_ok, ne_eq, not_true_eq_false, if_false, Sem.run_pure]
    by_cases h : a = b <;> simp [h]
theorem run_eqb (n : Nat) (hu : P.underlying t = some .bool) (a b : Bool) (w : World) : (Op.equalIn (n + 1) t (.bool a) (.bool b)).run P w = .ok (a == b) w := by
  simp only [Op.equalIn, Sem.run_bind, run_underlying hu, Result.andThen_ok, Sem.run_pure]
theorem s_eqb {a b : Bool} [hu : UI P t .bool] (hx : ev T x = some (.v (.bool a))) (hy : ev T y = some (.v (.bool b))) : StepU P ⟨d, .binOp .eql t x y t', ty, ps, af, gd⟩ k [] H T (.v (.bool (a == b))) [] :=
  s_bin hx hy fun w => by
    have h1 : (eqGuard .eql t x y (.bool a) (.bool b)).run P w = .ok () w := by simp [eqGuard]
    have h2 : (Op.equal t (.bool a) (.bool b)).run P w = .ok (a == b) w := run_eqb 9999 hu.u a b w
    simp only [h1, h2, binOp, Sem.run_bind, Result.andThen_ok, Sem.run_pure]
theorem s_neb {a b : Bool} [hu : UI P t .bool] (hx : ev T x = some (.v (.bool a))) (hy : ev T y = some (.v (.bool b))) : StepU P ⟨d, .binOp .neq t x y t', ty, ps, af, gd⟩ k [] H T (.v (.bool (!(a == b)))) [] :=
  s_bin hx hy fun w => by
    have h1 : (eqGuard .neq t x y (.bool a) (.bool b)).run P w = .ok () w := by simp [eqGuard]
    have h2 : (Op.equal t (.bool a) (.bool b)).run P w = .ok (a == b) w := run_eqb 9999 hu.u a b w
    simp only [h1, h2, binOp, Sem.run_bind, Result.andThen_ok, Sem.run_pure]
theorem s_not {a : Bool} (hx : ev T x = some (.v (.bool a))) : StepU P ⟨d, .unOp .not t x, ty, ps, af, gd⟩ k [] H T (.v (.bool (!a))) [] :=
  s_un hx fun w => by simp [Op.unary]
/-- two strings -/
theorem s_eqs {a b : List UInt8} (hx : ev T x = some (.v (.string (strB a)))) (hy : ev T y = some (.v (.string (strB b)))) : StepU P ⟨d, .binOp .eql t x y t', ty, ps, af, gd⟩ k [] H T (.v (.bool (a == b))) [] :=
  s_bin hx hy fun w => by simp [eqGuard, binOp, Op.stringOp, Sem.run_bind, strB_toList]
theorem s_nes {a b : List UInt8} (hx : ev T x = some (.v (.string (strB a)))) (hy : ev T y = some (.v (.string (strB b)))) : StepU P ⟨d, .binOp .neq t x y t', ty, ps, af, gd⟩ k [] H T (.v (.bool (!(a == b)))) [] :=
  s_bin hx hy fun w => by simp [eqGuard, binOp, Op.stringOp, Sem.run_bind, strB_toList]
theorem s_cat {a b : List UInt8} (hx : ev T x = some (.v (.string (strB a)))) (hy : ev T y = some (.v (.string (strB b)))) (h : a.length + b.length ≤ 9223372036854775807) : StepU P ⟨d, .binOp .add t x y t', ty, ps, af, gd⟩ k [] H T (.v (.string (strB (a ++ b)))) [] :=
  s_bin hx hy fun w => by
    have e : ¬ (((a.length : Int) + (b.length : Int)) > 9223372036854775807) := by omega
    have em : IntKind.i64.max = 9223372036854775807 := by decide
    simp [eqGuard, binOp, Op.stringOp, Sem.run_bind, strB_size, strB_append, em]
    omega
/-- two names -/
theorem guard_name (op : BinOp) (x y : Operand) (a b : UInt64) (hg : P.eqGuardType P.depth t = false) (w : World) : (eqGuard op t x y (.agg (nameC a)) (.agg (nameC b))).run P w = .ok () w := by
  cases op <;> simp [eqGuard, program, Sem.run, hg]
theorem eqA {e : TypeId} (hu : P.underlying t = some (.array 8 e)) (hi : (P.info? e).isSome = true) (he : P.underlying e = some (.int .u8)) (hc : P.cellsOf e = 1) (a b : UInt64) (w : World) : (Op.equal t (.agg (nameC a)) (.agg (nameC b))).run P w = .ok (a == b) w :=
  run_eq_name (P := P) w 9998 hu hi he hc a b
/-- a type of names -/
class NI (P : Program) (t : TypeId) : Prop where
  h : P.eqGuardType P.depth t = false ∧ ∃ e, P.underlying t = some (.array 8 e) ∧ (P.info? e).isSome = true ∧ P.underlying e = some (.int .u8) ∧ P.cellsOf e = 1
theorem s_eqN {a b : UInt64} [hN : NI P t] (hx : ev T x = some (.v (.agg (nameC a)))) (hy : ev T y = some (.v (.agg (nameC b)))) : StepU P ⟨d, .binOp .eql t x y t', ty, ps, af, gd⟩ k [] H T (.v (.bool (a == b))) [] :=
  s_bin hx hy fun w => by
    obtain ⟨hg, e, h1, h2, h3, h4⟩ := hN.h
    have := eqA h1 h2 h3 h4 a b w
    simp only [guard_name (P := P) .eql x y a b hg, binOp, Sem.run_bind, this, Result.andThen_ok, Sem.run_pure]
theorem s_neN {a b : UInt64} [hN : NI P t] (hx : ev T x = some (.v (.agg (nameC a)))) (hy : ev T y = some (.v (.agg (nameC b)))) : StepU P ⟨d, .binOp .neq t x y t', ty, ps, af, gd⟩ k [] H T (.v (.bool (!(a == b)))) [] :=
  s_bin hx hy fun w => by
    obtain ⟨hg, e, h1, h2, h3, h4⟩ := hN.h
    have := eqA h1 h2 h3 h4 a b w
    simp only [guard_name (P := P) .neq x y a b hg, binOp, Sem.run_bind, this, Result.andThen_ok, Sem.run_pure]
/-! conversions -/
def toU8 (n : Int) : UInt8 := UInt8.ofNat (n % 256).toNat
def toU64 (n : Int) : UInt64 := UInt64.ofNat (n % 18446744073709551616).toNat
theorem wrap_toU8 (n : Int) : IntKind.u8.wrap n = ((toU8 n).toNat : Int) := by
  rw [IntKind.wrap_u8, toU8, UInt8.toNat_ofNat']; omega
theorem wrap_toU64 (n : Int) : IntKind.u64.wrap n = ((toU64 n).toNat : Int) := by
  rw [IntKind.wrap_u64, toU64, UInt64.toNat_ofNat']; omega
theorem s_cu8 {s : TypeId} {k1 : IntKind} {n : Int} {ds : TypeDesc} [hu : UI P t (.int .u8)] [hs : UI P s ds] (hx : ev T x = some (.v (.int k1 n))) : StepU P ⟨d, .convert s t x, ty, ps, af, gd⟩ k [] H T (.v (.int .u8 ((toU8 n).toNat : Int))) [] :=
  s_conv hx fun w => by
    simp only [convert, Sem.run_bind, run_underlying hu.u, run_underlying hs.u, Result.andThen_ok, Conv.intToInt, wrap_toU8, Sem.run_pure]
theorem s_cu64 {s : TypeId} {k1 : IntKind} {n : Int} {ds : TypeDesc} [hu : UI P t (.int .u64)] [hs : UI P s ds] (hx : ev T x = some (.v (.int k1 n))) : StepU P ⟨d, .convert s t x, ty, ps, af, gd⟩ k [] H T (.v (.int .u64 ((toU64 n).toNat : Int))) [] :=
  s_conv hx fun w => by
    simp only [convert, Sem.run_bind, run_underlying hu.u, run_underlying hs.u, Result.andThen_ok, Conv.intToInt, wrap_toU64, Sem.run_pure]
theorem s_ci64 {s : TypeId} {k1 : IntKind} {n : Int} {ds : TypeDesc} [hu : UI P t (.int .i64)] [hs : UI P s ds] (hx : ev T x = some (.v (.int k1 n))) (h : -9223372036854775808 ≤ n ∧ n ≤ 9223372036854775807) : StepU P ⟨d, .convert s t x, ty, ps, af, gd⟩ k [] H T (.v (.int .i64 n)) [] :=
  s_conv hx fun w => by
    simp only [convert, Sem.run_bind, run_underlying hu.u, run_underlying hs.u, Result.andThen_ok, Conv.intToInt, i64w h, Sem.run_pure]
theorem s_string {e st : TypeId} {bytes n : Nat} {z : Value} {u : AV} {bs : List UInt8} {cs : List AV} {U : List Nat} [hS : SI P t e 1 bytes z] [he : UI P e (.int .u8)] [hd : UI P st .string] (hx : ev T x = some u) (hr : Rdv H 1 u n cs U) (hcs : cs = byA bs) :
    StepU P ⟨d, .convert t st x, ty, ps, af, gd⟩ k U H T (.v (.string (strB bs))) [] := s_str he.u hd.u hx hr hcs
def partsOk (T : AT) : List (Nat × Operand) → Nat → Bool
  | [], _ => true
  | p :: l, i => Nat.beq p.1 i && (evV T p.2).oneCell' && partsOk T l (i + 1)
theorem partsOk_get : ∀ (l : List (Nat × Operand)) (i : Nat), partsOk T l i = true → ∀ (j : Nat) (p : Nat × Operand), l[j]? = some p → p.1 = i + j ∧ (evV T p.2).oneCell' = true
  | [], _, _, j, p, hp => by simp at hp
  | q :: l, i, h, j, p, hp => by
    simp only [partsOk, Bool.and_eq_true] at h
    cases j with
    | zero => simp at hp; subst hp; exact ⟨Nat.eq_of_beq_eq_true h.1.1, h.1.2⟩
    | succ j => have := partsOk_get l (i + 1) h.2 j p (by simpa using hp); exact ⟨by omega, this.2⟩
theorem s_bytesL {l : List (Nat × Operand)} {n bytes : Nat} {e : TypeId} {z : Value} [hS : SI P t e 1 bytes z] (hp : l.all (fun p => isV T p.2) = true) (hq : partsOk T l 0 = true) (hn : l.length = n) (hsmall : n ≤ 16777216) :
    StepU P ⟨d, .buildSlice t n l.toArray, ty, ps, af, gd⟩ k [] H T (.sl k n) [(k, some ⟨l.map (fun p => .v (evV T p.2)), e, 1⟩)] :=
  s_bytesLit hp (fun j p h => by have := partsOk_get l 0 hq j p h; simpa using this) hn hsmall
inductive PV (T : AT) : Nat → List (Nat × Operand) → List AV → Prop
  | nil {i : Nat} : PV T i [] []
  | cons {i i' : Nat} {x : Operand} {X : Value} {l : List (Nat × Operand)} {cs : List AV} (hi : i' = i) (hx : ev T x = some (.v X)) (h1 : X.oneCell' = true) (k : PV T (i + 1) l cs) : PV T i ((i', x) :: l) (.v X :: cs)
theorem PV.all {i : Nat} {l : List (Nat × Operand)} {cs : List AV} (h : PV T i l cs) : l.all (fun p => isV T p.2) = true ∧ partsOk T l i = true ∧ cs = l.map (fun p => .v (evV T p.2)) := by
  induction h with
  | nil => exact ⟨rfl, rfl, rfl⟩
  | cons hi hx h1 _ ih =>
    subst hi
    have e1 : ∀ x X, ev T x = some (.v X) → isV T x = true ∧ evV T x = X := fun x X h => by simp [isV, evV, h]
    obtain ⟨a1, a2⟩ := e1 _ _ hx
    refine ⟨by simp only [List.all_cons, a1, ih.1, Bool.and_self], by simp only [partsOk, a2, h1, ih.2.1, Bool.and_true]; exact Nat.beq_refl _, by simp only [List.map_cons, a2, ← ih.2.2]⟩
theorem s_bytesP {l : List (Nat × Operand)} {cs : List AV} {n bytes : Nat} {e : TypeId} {z : Value} [hS : SI P t e 1 bytes z] (h : PV T 0 l cs) (hn : l.length = n) (hsmall : n ≤ 16777216) :
    StepU P ⟨d, .buildSlice t n l.toArray, ty, ps, af, gd⟩ k [] H T (.sl k n) [(k, some ⟨cs, e, 1⟩)] := by
  obtain ⟨h1, h2, rfl⟩ := h.all
  exact s_bytesL h1 h2 hn hsmall
/-! names as bytes -/
theorem cu_name (n : UInt64) : cu (.v (.agg (nameC n))) = byA (nameB n) := rfl
theorem rd_name {b n : Nat} {c : Option Nat} {a : UInt64} {e : TypeId} {sz : Nat} (hb : hk H b = some ⟨cu (.v (.agg (nameC a))), e, sz⟩) (hn : n = 8) : Rdv H 1 (.sb b 0 n c) n (byA (nameB a)) [b] := by
  subst hn
  exact rd_sb (sz := 1) hb (by show 0 + 8 * 1 ≤ 8; omega)
theorem arg_name {b n : Nat} {c : Option Nat} {a : UInt64} {e : TypeId} {sz : Nat} (hb : hk H b = some ⟨cu (.v (.agg (nameC a))), e, sz⟩) (hn : n = 8) : Arg H (.sb b 0 n c) (.ex n false (byA (nameB a))) [b] := by
  subst hn
  have := arg_sb (c := c) (o := 0) (n := 8) (m := 8) hb (h := (inferInstance : CloL (cu (.v (.agg (nameC a)))))) (by show 0 + 8 ≤ 8; omega) (fun h => by cases h)
  exact this
end
end Go.Proofs.Ytnghcfjejgdnlaa
